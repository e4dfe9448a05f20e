/- Layer 11: the program's End, above, Up, walked. -/
import Derived.Test.YtbjkdmbcpkopjaaGreatDoorTermMt
import Derived.Test.YtbjkdmbcpkopjaaGreatDoorCoreMt
import Derived.Test.YtbjkdmbcpkopjaaGreatDoorCheckBMt
import Derived.Test.YtbjkdmbcpkopjaaGreatDoorRuleVMt
import Derived.Test.YtbjkdmbcpkopjaaGreatDoorStillMt
import Derived.Laws.CopyOwn
import Derived.Test.YtbjkdmbcpkopjaaGreatDoorMapUMt
import Derived.StillTailTactics
import Derived.Test.YtbjkdmbcpkopjaaGreatDoorMatchPMt
import Derived.Test.YtbjkdmbcpkopjaaGreatDoorU8bMt
import Derived.Test.YtbjkdmbcpkopjaaGreatDoorU8Mt
import Derived.Test.YtbjkdmbcpkopjaaGreatDoorScanPMt
import Derived.Test.YtbjkdmbcpkopjaaGreatDoorQuotedPMt
import Derived.Laws.Strings3
import Derived.Laws.DeepStrings4
import Derived.Test.YtbjkdmbcpkopjaaGreatDoorQuoted6Mt
import Derived.Test.YtbjkdmbcpkopjaaGreatDoorQuoted5Mt
import Derived.Test.YtbjkdmbcpkopjaaGreatDoorRefMAMt
import Derived.Test.YtbjkdmbcpkopjaaGreatDoorAppEqMt
import Derived.Test.YtbjkdmbcpkopjaaGreatDoorUntilMt
import Derived.Deep.RegionHeld3
namespace Go.Proofs.YtbjkdmbcpkopjaaGreatDoor
set_option linter.all false
open Go.RowKit

end Go.Proofs.YtbjkdmbcpkopjaaGreatDoor
namespace Go.Proofs.YtbjkdmbcpkopjaaGreatDoor
set_option linter.all false

attribute [local irreducible] Calls
attribute [local irreducible] wpStill
open Go.RowKit
end Go.Proofs.YtbjkdmbcpkopjaaGreatDoor
namespace Go.Proofs.YtbjkdmbcpkopjaaGreatDoor
set_option linter.all false

open Go
open Go.RowKit
section
variable {P:Program}
end
end Go.Proofs.YtbjkdmbcpkopjaaGreatDoor
namespace Go.Proofs.YtbjkdmbcpkopjaaGreatDoor
set_option linter.all false
attribute [local irreducible] wpStill
open Go.RowKit

theorem zIe:(Tryz.prog.info? 53).map (fun i=>(i.zero,i.size,i.bytes))=some (some (.agg #[.int .u8 0,.int .i64 0,.string ByteArray.empty]),3,32):=by kernel_rfl
theorem zIf (l:List Prt):∀ u∈yF l,u.oneCell'=true:=by
 intro u hu;unfold yF at hu;rw [List.mem_flatMap] at hu;obtain ⟨p,_,hp⟩:=hu;unfold partV at hp;simp at hp;rcases hp with rfl | rfl | rfl <;> rfl
end Go.Proofs.YtbjkdmbcpkopjaaGreatDoor
namespace Go.Proofs.YtbjkdmbcpkopjaaGreatDoor
set_option linter.all false
open Go.RowKit

attribute [local irreducible] Calls
end Go.Proofs.YtbjkdmbcpkopjaaGreatDoor
namespace Go.Proofs.YtbjkdmbcpkopjaaGreatDoor
set_option linter.all false
open Go.RowKit
attribute [local irreducible] wpStill
attribute [local irreducible] Calls
def natV (ns:List Nat):List Value:=ns.map fun (n:Nat)=>Value.int .i64 (n:Int)
end Go.Proofs.YtbjkdmbcpkopjaaGreatDoor
namespace Go.Proofs.YtbjkdmbcpkopjaaGreatDoor
set_option maxRecDepth 100000
set_option maxHeartbeats 32000000
set_option linter.all false
open Go.RowKit

@[irreducible] def kidsOwn (ks:List Nat) (w0:World) (e:Ending) (w':World):Prop :=
 ∃ v,e=.returned v∧Below w0.heap.size w0 w'∧w'.ownsRow w0.heap.size 3 1 v ks.length (natV ks)
theorem zOr (l:List Prt) (hl:l.length≤1000000000) (us:List Nat) (hus:zD l=some us) (v:Value) (i:Nat) (hi:i<l.length) (w:World) (hr:zF w v l) :
  Calls Tryz.prog 26 #[v,.int .i64 (i:Int)] w (kidsOwn (kidsB l i) w):=by
 have HQ:Hid (∀ v' w',Below w.heap.size w w'→w'.ownsRow w.heap.size 3 1 v' (kidsB l i).length (natV (kidsB l i))→kidsOwn (kidsB l i) w (.returned v') w'):=Hd fun v' w' h2 h3=>by
  unfold kidsOwn;exact ⟨v',rfl,h2,h3⟩
 have HR:=Hd hr;obtain ⟨va,vcap,rfl,hvc⟩:=hr.slice;clear hr;obtain ⟨ts,q,f1,f2,f3,f4,f5⟩:=zCa hus hi;have HST:=Hd (fun n (hn:n<q)=>fD hus f1 f3 hn);have HCE:=Hd (fun (W':World) (hb:Below w.heap.size w W') k (hk:k<l.length)=>show Calls Tryz.prog 12 #[.slice va l.length vcap,.int .i64 (k:Int)] W' fun e w'=>e=.returned (.int .i64 (zB l k:Int))∧W'=w' by
  have:=zBe l hl _ k (by omega) W' (HR.out.below hb);rw [zIh hus hk] at this;exact this)
 have HK5:=Hd f5;have HE4:=Hd f4;have HQT:=Hd f3;have hqt:ts.length≤l.length:=by have:=(zU f1).2.1;rw [List.length_drop] at this;omega
 have hqb:q≤1000000000:=by omega
 have hee:=(zP hus hi).2;rw [f4] at hee;obtain ⟨b,off,rfl,_,_,_,hcell⟩:=HR.out.at (bR _ _) (show 0<l.length by omega);have hc1:=(hcell i hi).2.1;rw [f2] at hc1;have HC:Hid (∀ W',Below w.heap.size w W'→W'.cell? ⟨b,off+i*3+1,none⟩=some (.int .i64 (q:Int))):=Hd fun W' hb=>by
  obtain ⟨b',off',hbb,_,_,_,hcc⟩:=HR.out.at hb (show 0<l.length by omega);simp only [Option.some.injEq,Addr.mk.injEq,and_true] at hbb;obtain ⟨rfl,rfl⟩:=hbb;rw [(hcc i hi).2.1,f2]
 generalize kidsOwn (kidsB l i) w=Q at *;have hji:(i:Int)<l.length:=by omega
 have hj0:(0:Int)≤i:=by omega
 have hjc:(i:Int)<vcap:=by omega
 have hwj:IntKind.i64.wrap ((i:Int)+1)=(i:Int)+1:=wI (by omega);clear f1 f2 f3 f4 f5 hcell hc1;go_enter Tryz.func26,Tryz.ntmps26;go_wp2_with fail;go_loopw [5,6,7] (fun v k c wr=>∃ n:Nat,c=.int .i64 (n:Int)∧n≤q∧k=.int .i64 ((i+1+(ts.take n).sum:Nat):Int)∧wr.ownsRow w.heap.size 3 1 v n (((starts (i+1) ts).take n).map fun (x:Nat)=>Value.int .i64 (x:Int))∧Below w.heap.size w wr) (fun _ _ c _=>q-(intOf c).toNat)
 case atStart=>exact ⟨0,rfl,Nat.zero_le _,by simp,World.ownsRow_nil _ _ _ _,bR _ _⟩
 case round =>
  obtain ⟨n,rfl,hn,rfl,ho,hb⟩:=hrel;have HO:=Hd ho;have HB:=Hd hb;have HNN:=Hd hn;obtain ⟨_,oa,oc,rfl,_,_,_⟩:=Row.of_owns ho;have d0:=HC.out _ HB.out;have hbs:=hb.size;clear ho hb hn;by_cases hlt:n<q
  ·obtain ⟨g1,g2,g3,g4,g5,g6⟩:=HST.out n hlt;have HG3:=Hd g3;have hlt':(n:Int)<q:=by omega
   have hC:=fun W' hb=>HCE.out W' hb _ g1;rw [g2] at hC;have HCK:=Hd hC;have hnb:n≤1000000000:=by omega
   have HN1:Hid (n+1≤q):=Hd hlt;have HMS:Hid (q-(n+1)<q-n):=Hd (by omega);have hwn:IntKind.i64.wrap ((n:Int)+1)=(n:Int)+1:=wI (by omega);clear g1 g2 g3 g4 g5 g6 hC;generalize hK1:i+1+(ts.take n).sum=K1 at *;generalize hK2:i+1+(ts.take (n+1)).sum=K2 at *;have HK2:=Hd hK2;clear hK1 hK2;go_wp2_with (at_builtin;refine yA wr #[.int .i64 (K1:Int)] _ rfl _ _ 54 3 rfl Tryz.underlying54 w.heap.size kQ rfl (by decide) _ _ _ rfl HO.out 1 1 rfl rfl (by decide) (by intro u hu;simp at hu;subst hu;rfl) (by omega) (by omega) hbs ?_);intro v' w' hown hgr _;have hb':=vU HB.out hbs HO.out hgr;have CK:=Hd (HCK.out w' hb');have HRL:Hid (w'.ownsRow w.heap.size 3 1 v' (n+1) (((starts (i+1) ts).take (n+1)).map fun (x:Nat)=>Value.int .i64 (x:Int))∧Below w.heap.size w w'):=Hd ⟨by have h:=hown;rw [HG3.out];simpa using h,hb'⟩;obtain ⟨_,va',vc',rfl,_,_,_⟩:=Row.of_owns hown;clear hown hgr hb' d0;go_wp2_with fail;refine CK.out.mono ?_;rintro e w2 ⟨rfl,rfl⟩;go_wp2_with fail;refine ⟨⟨n+1,congrArg (Value.int .i64) (by omega),HN1.out,by rw [HK2.out],HRL.out.1,HRL.out.2⟩,?_⟩;have:=HMS.out;simp only [intOf];omega
  ·have hnq:n=q:=by have:=HNN.out;omega
   subst hnq;have HRW:Hid (wr.ownsRow w.heap.size 3 1 (.slice oa n oc) (kidsB l i).length (natV (kidsB l i))):=Hd (by
    have e:(kidsB l i).length=n:=by rw [HK5.out,List.length_take,yX];have:=HQT.out;omega
    rw [e,HK5.out];exact HO.out)
   go_wp2_with fail;exact HQ.out _ _ HB.out HRW.out
end Go.Proofs.YtbjkdmbcpkopjaaGreatDoor
namespace Go.Proofs.YtbjkdmbcpkopjaaGreatDoor
set_option linter.all false

structure KidSeq (f:List Prt) (p q:Nat) (kp:Nat→Nat):Prop where
 len:(kidsB f p).length=q
 get:∀ c,c<q→(kidsB f p)[c]?=some (kp c)
 lt:∀ c,c<q→kp c<f.length
 nx:∀ c,c<q→zB f (kp c)=kp (c+1)
 up:∀ c,c<q→kp c<kp (c+1)
 le:∀ c,c≤q→kp c≤zB f p
 z:kp 0=p+1
 e:kp q=zB f p
 n:(q:Int)≤f.length
theorem yCf {f:List Prt} {us:List Nat} (h:zD f=some us) {p:Nat} (hp:p<f.length):∃ q kp,KidSeq f p q kp:=by
 obtain ⟨ts,q,f1,f2,f3,f4,f5⟩:=zCa h hp;have hl:=(zU f1).2.1;rw [List.length_drop] at hl;refine ⟨q,fun c=>p+1+(ts.take c).sum,⟨?_,fun c hc=>?_,fun c hc=>?_,fun c hc=>?_,fun c hc=>?_,fun c hc=>?_,by simp,f4.symm,by omega⟩⟩
 ·rw [f5,List.length_take,yX];omega
 ·obtain ⟨_,_,g3,_⟩:=fD h f1 f3 hc;have e1:(starts (p+1) ts)[c]?=some (p+1+(ts.take c).sum):=by
   have e2:((starts (p+1) ts).take (c+1))[c]?=some (p+1+(ts.take c).sum):=by
    rw [g3,List.getElem?_append_right (by rw [List.length_take,yX];omega),List.length_take,yX,Nat.min_eq_left (by omega),Nat.sub_self];rfl
   rw [List.getElem?_take_of_lt (by omega)] at e2;exact e2
  rw [f5,List.getElem?_take_of_lt hc,e1]
 ·exact (fD h f1 f3 hc).1
 ·exact (fD h f1 f3 hc).2.1
 ·have:=(fD h f1 f3 hc).2.2.2.2.1;show p+1+_<p+1+_;omega
 ·rw [f4];have:=vL ts c (q-c);rw [show c+(q-c)=q by omega] at this;show p+1+_≤p+1+_;omega
section
variable {f l:List Prt} {hs:List Hl} {L:Nat→Nat}
end
def bOf (bs:List Bnd) (h:Nat):Nat×Nat:=match bs[h]? with
 | some x=>(x.2.1.toNat,x.2.2.toNat)
 | none=>(0,0)
def BindsIn (bs:List Bnd) (l:List Prt):Prop:=∀ x∈bs,0≤x.2.1∧x.2.1≤x.2.2∧x.2.2≤l.length
theorem zQk {bs:List Bnd} {h:Nat} (hh:h<bs.length):bOf bs h=((bs[h]).2.1.toNat,(bs[h]).2.2.toNat):=by unfold bOf;rw [gE hh]
theorem zXh {bs:List Bnd} {l:List Prt} (hb:BindsIn bs l) (h:Nat):(bOf bs h).1≤(bOf bs h).2∧(bOf bs h).2≤l.length:=by
 by_cases hh:h<bs.length
 ·have:=hb _ (gM hh);rw [zQk hh];simp only [];omega
 ·unfold bOf;rw [List.getElem?_eq_none (by omega)];simp
section
variable {t l:List Prt} {hs:List Hl} {b:Nat→Nat×Nat}
theorem yAx {n p h:Nat} (ho:zL t hs p=some h):mPart t l hs b (n+1) p=srcL l (b h).1 (b h).2:=by rw [mPart,ho]
theorem zTa {n p:Nat} (ho:zL t hs p=none) (hp:p<t.length):mPart t l hs b (n+1) p=(((t[p]).1,(cntP ((mKids t l hs b n (p+1) (zB t p)).map (·.1)):Int),(t[p]).2.2),-1)::mKids t l hs b n (p+1) (zB t p):=by
 rw [mPart,ho,gE hp]
theorem yCp {n p:Nat}:mKids t l hs b (n+1) p p=[]:=by rw [mKids,iP rfl]
theorem yAy {n p pend:Nat} (h:p≠pend):mKids t l hs b (n+1) p pend=mPart t l hs b n p++mKids t l hs b n (zB t p) pend:=by rw [mKids,iN h]
theorem zQl (hb:∀ h,(b h).1≤(b h).2∧(b h).2≤l.length) (hv:∀ h,∃ ts,zD (piece l (b h).1 (b h).2)=some ts) (n p:Nat):∃ ts,zD ((mPart t l hs b n p).map (·.1))=some ts:=by
 rw [(zQh t l hs b hb n).1 p];obtain ⟨ts,h,_⟩:=(zKv t hs (fun h=>piece l (b h).1 (b h).2) hv n).1 p;exact ⟨ts,h⟩
end
def intsV (xs:List Int):List Go.Value:=xs.map (Go.Value.int .i64)
open Go.RowKit
theorem zFz {w:World} {b o:Nat} {v:Value} (h:w.cell? ⟨b,o,none⟩=some v):b<w.heap.size:=by
 apply Classical.byContradiction;intro hn;unfold World.cell? at h;rw [Array.getElem?_eq_none (by simpa using hn)] at h;cases h
theorem zCe {w w':World} {b o:Nat} (h:w'.heap[b]?=w.heap[b]?):w'.cell? ⟨b,o,none⟩=w.cell? ⟨b,o,none⟩:=by
 unfold World.cell?;simp only [h]
theorem zDb {w w':World} {B B2:Nat} {e e2:TypeId} {size n size2 n2:Nat} {v v2:Value} {xs xs2:List Value} (h:w.ownsRow B e size v n xs) (hg:w.grownBy w' v.ownBlock) (h2:w.ownsRow B2 e2 size2 v2 n2 xs2) (ht:e2≠e):w'.ownsRow B2 e2 size2 v2 n2 xs2:=by
 obtain ⟨g1,g2⟩:=h2;refine ⟨g1,?_⟩;rcases g2 with g2 | ⟨k,cap,cur,hv,hk,hh,r⟩
 ·exact Or.inl g2
 ·refine Or.inr ⟨k,cap,cur,hv,hk,?_,r⟩;rw [hg.block k (zG hh) ?_,hh];intro e1;rcases h.2 with ⟨rfl,_⟩ | ⟨k1,cap1,cur1,rfl,_,hh1,_⟩
  ·simp [Value.ownBlock] at e1
  ·simp [Value.ownBlock] at e1;subst e1;rw [hh] at hh1;cases hh1
   exact ht rfl
structure InW (w0:World) (q:Nat) (kp:Nat→Nat) (ka:Option Addr) (hk:Nat) (hw:ByteArray) (M:List PN) (ov fv:Value) (w:World):Prop where
 o:w.ownsRow w0.heap.size 53 3 ov (M.length+1) (yF ((hk,(cntP (M.map (·.1)):Int),hw)::M.map (·.1)))
 f:w.ownsRow w0.heap.size 3 1 fv (M.length+1) (intsV (-1::M.map (·.2)))
 k:∀ c,c<q→∃ g,ka=some ⟨g,0,none⟩∧ov.ownBlock≠some g∧fv.ownBlock≠some g∧w.cell? ⟨g,c,none⟩=some (.int .i64 (kp c:Int))
 b:Below w0.heap.size w0 w
theorem InW.below {w0 w w':World} {q:Nat} {kp:Nat→Nat} {ka:Option Addr} {hk:Nat} {hw:ByteArray} {M:List PN} {ov fv:Value} (h:InW w0 q kp ka hk hw M ov fv w) (hb:Below w.heap.size w w'):InW w0 q kp ka hk hw M ov fv w' :=
 ⟨zY h.o hb,zY h.f hb,fun c hc=>by
  obtain ⟨g,h1,h2,h3,h4⟩:=h.k c hc;exact ⟨g,h1,h2,h3,by rw [hb.cell (p:=⟨g,c,none⟩) (zFz h4)];exact h4⟩,zC h.b hb⟩
theorem zTb {w:World} {B B2:Nat} {e e2:TypeId} {size n size2 n2:Nat} {v v2:Value} {xs xs2:List Value} (h:w.ownsRow B e size v n xs) (h2:w.ownsRow B2 e2 size2 v2 n2 xs2) (ht:e2≠e) {g:Nat} (hg:v.ownBlock=some g):v2.ownBlock≠some g:=by
 intro hg2;rcases h.2 with ⟨hv,_⟩ | ⟨k,cap,cur,hv,_,hh,_⟩
 ·rw [hv] at hg;simp [Value.ownBlock] at hg
 ·rw [hv] at hg;simp [Value.ownBlock] at hg;subst hg;rcases h2.2 with ⟨hv2,_⟩ | ⟨k2,cap2,cur2,hv2,_,hh2,_⟩
  ·rw [hv2] at hg2;simp [Value.ownBlock] at hg2
  ·rw [hv2] at hg2;simp [Value.ownBlock] at hg2;subst hg2;rw [hh] at hh2;simp only [Option.some.injEq,Obj.cells.injEq] at hh2;exact ht hh2.2.1.symm
theorem zTy (xs:List Int):∀ u∈intsV xs,u.oneCell'=true:=by
 intro u hu;unfold intsV at hu;obtain ⟨x,_,rfl⟩:=List.mem_map.1 hu;rfl
theorem zTz (a b:List Int):intsV (a++b)=intsV a++intsV b:=by unfold intsV;rw [List.map_append]
theorem InW.step {w0 w:World} {q:Nat} {kp:Nat→Nat} {ka:Option Addr} {hk:Nat} {hw:ByteArray} {M N:List PN} {ov fv va vb:Value} (h:InW w0 q kp ka hk hw M ov fv w) {us ts:List Nat} (hu:zD (M.map (·.1))=some us) (ht:zD (N.map (·.1))=some ts) {B:Nat}
  (ha:w.ownsRow B 53 3 va N.length (yF (N.map (·.1)))) (hb:w.ownsRow B 3 1 vb N.length (intsV (N.map (·.2)))) (hB:∀ g,ov.ownBlock=some g→g<B) (hB2:∀ g,fv.ownBlock=some g→g<B) (hlen:M.length+N.length≤1000000000) :
  ∃ g cap w8 w9 v8 v9,ov=.slice (some ⟨g,0,none⟩) (M.length+1) cap∧M.length+1≤cap∧w.cell? ⟨g,1,none⟩=some (.int .i64 (us.length:Int))∧w.frozen? ⟨g,1,none⟩=false ∧
   (Builtin.append_ #[25,25] 25 #[ov,va]).run Tryz.prog (w.setCell ⟨g,1,none⟩ (.int .i64 ((us.length:Int)+ts.length)))=.ok v8 w8 ∧
   (Builtin.append_ #[54,54] 54 #[fv,vb]).run Tryz.prog w8=.ok v9 w9∧InW w0 q kp ka hk hw (M++N) v8 v9 w9:=by
 have hc1:cntP (M.map (·.1))=us.length:=zKu hu;have hc2:cntP ((M++N).map (·.1))=us.length+ts.length:=by rw [List.map_append];exact zXk hu ht
 have hoo:=h.o;rcases hoo.2 with ⟨_,h0⟩ | ⟨g,cap,cur,hv,hg,hh,hnc,hcm,hcs,htk⟩
 ·omega
 subst hv;have hog:(Value.slice (some ⟨g,0,none⟩) (M.length+1) cap).ownBlock=some g:=rfl;have hc:w.cell? ⟨g,1,none⟩=some (.int .i64 (us.length:Int)):=by
  rw [hoo.cellAt 1 (by omega),hc1];rfl
 have hz:w.frozen? ⟨g,1,none⟩=false:=by simp [World.frozen?,hh]
 have o7:=vC hoo 1 (by rw [vN,lC];omega) (.int .i64 ((us.length:Int)+ts.length));have e7:(yF ((hk,(cntP (M.map (·.1)):Int),hw)::M.map (·.1))).set 1 (.int .i64 ((us.length:Int)+ts.length))=yF ((hk,(us.length:Int)+ts.length,hw)::M.map (·.1)):=rfl;rw [e7] at o7;have n1:va.ownBlock≠some g:=fun e=>by
  have h1:=(ha.lt g e).1;have h2:=hB g hog;omega
 have n2:=zTb hoo h.f (by decide) hog;have n3:=zTb hoo hb (by decide) hog;have a7:=ownsRow_setCell_other ha (a:=⟨g,1,none⟩) n1 (.int .i64 ((us.length:Int)+ts.length));have f7:=ownsRow_setCell_other h.f (a:=⟨g,1,none⟩) n2 (.int .i64 ((us.length:Int)+ts.length));have b7:=ownsRow_setCell_other hb (a:=⟨g,1,none⟩) n3 (.int .i64 ((us.length:Int)+ts.length));have w7b:=h.b.setCell (p:=⟨g,1,none⟩) hg (.int .i64 ((us.length:Int)+ts.length));have k7:∀ c,c<q→∃ g',ka=some ⟨g',0,none⟩∧g'≠g∧fv.ownBlock≠some g'∧(w.setCell ⟨g,1,none⟩ (.int .i64 ((us.length:Int)+ts.length))).cell? ⟨g',c,none⟩=some (.int .i64 (kp c:Int)):=fun c hc=>by
  obtain ⟨g',h1,h2,h3,h4⟩:=h.k c hc;have hne:g'≠g:=fun e=>h2 (by rw [e];rfl)
  exact ⟨g',h1,hne,h3,by rw [World.cell?_setCell_other (h:=fun e=>hne (congrArg Addr.block e).symm)];exact h4⟩
 generalize hW7:w.setCell ⟨g,1,none⟩ (.int .i64 ((us.length:Int)+ts.length))=w7 at *;obtain ⟨v8,w8,r8,o8,g8,p8⟩:=jN (P:=Tryz.prog) w7 25 25 53 Tryz.underlying25 w0.heap.size zIe rfl (by decide) _ (M.length+1) _ o7 va N.length (yF (N.map (·.1))) (Row.of_owns a7) (zIf _) (by omega) (by omega) w7b.size;have f8:=zDb o7 g8 f7 (by decide);have b8:=zDb o7 g8 b7 (by decide);have w8b:=zAa w7b w7b.size o7 g8;obtain ⟨v9,w9,r9,f9,g9,p9⟩:=jN (P:=Tryz.prog) w8 54 54 3 Tryz.underlying54 w0.heap.size kQ rfl (by decide) fv (M.length+1) _ f8 vb N.length (intsV (N.map (·.2))) (Row.of_owns b8) (zTy _) (by omega) (by omega) w8b.size;have o9:=zDb f8 g9 o8 (by decide);have w9b:=zAa w8b w8b.size f8 g9;refine ⟨g,cap,w8,w9,v8,v9,rfl,hnc,hc,hz,by rw [hW7];exact r8,r9,⟨?_,?_,fun c hc=>?_,w9b⟩⟩
 ·rw [hc2];rw [List.map_append,lA,show M.length+N.length+1=M.length+1+N.length by omega,← List.cons_append,kZ];push_cast;exact o9
 ·rw [List.map_append,lA,show M.length+N.length+1=M.length+1+N.length by omega,← List.cons_append,zTz];exact f9
 ·obtain ⟨g',h1,h2,h3,h4⟩:=k7 c hc;have l7:=zFz h4;have e8:w8.cell? ⟨g',c,none⟩=some (.int .i64 (kp c:Int)):=by
   have:=g8.block g' l7 (fun e=>h2 (by rw [hog] at e;exact (Option.some.inj e)));rw [zCe this];exact h4
  have l8:=zFz e8;have e9:w9.cell? ⟨g',c,none⟩=some (.int .i64 (kp c:Int)):=by
   have:=g9.block g' l8 (fun e=>h3 e.symm);rw [zCe this];exact e8
  refine ⟨g',h1,?_,?_,e9⟩
  ·rcases p8 with e | e
   ·rw [e,hog];exact fun e2=>h2 (Option.some.inj e2).symm
   ·rw [e];exact fun e2=>by have:=Option.some.inj e2;omega
  ·rcases p9 with e | e
   ·rw [e];exact h3
   ·rw [e];exact fun e2=>by have:=Option.some.inj e2;omega
set_option maxRecDepth 100000
set_option maxHeartbeats 32000000
attribute [local irreducible] Calls
attribute [local irreducible] wpStill
structure InE (t l:List Prt) (hs:List Hl) (bs:List Bnd) (vt vh vb vl:Value) (w:World):Prop where
 T:zF w vt t
 H:HoleRow w vh hs
 B:BindRow w vb bs
 L:zF w vl l
theorem InE.below {t l:List Prt} {hs:List Hl} {bs:List Bnd} {vt vh vb vl:Value} {w w':World} (h:InE t l hs bs vt vh vb vl w) (hb:Below w.heap.size w w'):InE t l hs bs vt vh vb vl w':=⟨h.T.below hb,h.H.below hb,h.B.below hb,h.L.below hb⟩
structure InOK (t l:List Prt) (hs:List Hl) (bs:List Bnd):Prop where
 H:xP t hs
 n:bs.length=hs.length
 b:BindsIn bs l
 r:∀ h,∃ ts,zD (piece l (bOf bs h).1 (bOf bs h).2)=some ts
 tl:t.length≤1048576
 ll:l.length≤1048576
 hl:hs.length≤1048576
@[irreducible] def instPost (M:List PN) (w0:World) (e:Ending) (w':World):Prop :=
 ∃ v1 v2,e=.returned (.tuple #[v1,v2])∧Below w0.heap.size w0 w'∧w'.ownsRow w0.heap.size 53 3 v1 M.length (yF (M.map (·.1)))∧w'.ownsRow w0.heap.size 3 1 v2 M.length (intsV (M.map (·.2)))
def InstC (t l:List Prt) (hs:List Hl) (bs:List Bnd) (vt vh vb vl:Value) (n:Nat):Prop:=∀ (w:World) (p:Nat),InE t l hs bs vt vh vb vl w→p<t.length→2*(zB t p-p)≤n→(mPart t l hs (bOf bs) n p).length≤1000000000 →
 Calls Tryz.prog 16 #[vt,vh,vb,vl,.int .i64 (p:Int)] w (instPost (mPart t l hs (bOf bs) n p) w)
theorem zRv (w:World) (l:List Prt) (hl:l.length≤1048576) (src:Value) (hr:zF w src l) :
  ∃ v' w',(Builtin.append_ #[25,25] 25 #[.slice (some ⟨w.heap.size,0,none⟩) 0 0,src]).run Tryz.prog (w.alloc (.cells #[] 53))=.ok v' w'∧w'.ownsRow w.heap.size 53 3 v' l.length (yF l)∧Below w.heap.size w w':=by
 obtain ⟨v',w',h1,h2,h3,_⟩:=jN (P:=Tryz.prog) (w.alloc (.cells #[] 53)) 25 25 53 Tryz.underlying25 w.heap.size zIe rfl (by decide) _ 0 [] (zPw w w.heap.size 53 3 (nR _)) src l.length (yF l) (Row.below hr ((bR _ _).alloc (nR _) _)) (zIf l) (by omega) (by omega) (by simp);refine ⟨v',w',h1,by simpa using h2,?_⟩;exact ((bR _ _).alloc (nR _) _).grown h3 (by simp) (fun q e=>by simp [Value.ownBlock] at e;omega)
def rngV (a n:Nat):List Value:=(List.range' a n).map fun (k:Nat)=>Value.int .i64 (k:Int)
theorem zVp (a n:Nat):rngV a (n+1)=rngV a n++[.int .i64 ((a+n:Nat):Int)]:=by
 unfold rngV;rw [List.range'_1_concat,List.map_append];rfl
theorem yBs (l:List Prt) (x y:Nat):intsV ((srcL l x y).map (·.2))=rngV x (y-x):=by
 unfold intsV srcL rngV;rw [List.map_map,List.map_map];rfl
def ihRel (fr tx:Nat) (w1:World) (fv iv:Value) (wr:World):Prop :=
 ∃ i:Nat,iv=.int .i64 (i:Int)∧fr≤i∧i≤tx∧wr.ownsRow w1.heap.size 3 1 fv (i-fr) (rngV fr (i-fr))∧Below w1.heap.size w1 wr
theorem zVq {t l:List Prt} {hs:List Hl} {bs:List Bnd} (ok:InOK t l hs bs) (vt vh vb vl:Value) (n:Nat) (w:World) (p:Nat) (hi:InE t l hs bs vt vh vb vl w) (hp:p<t.length) (h:Nat) (ho:zL t hs p=some h) :
  Calls Tryz.prog 16 #[vt,vh,vb,vl,.int .i64 (p:Int)] w (instPost (mPart t l hs (bOf bs) (n+1) p) w):=by
 rw [yAx ho];have hh:h<bs.length:=by rw [ok.n];exact (jV ho).1
 have hbi:=ok.b _ (gM hh);have hbl:bs.length≤1048576:=by rw [ok.n];exact ok.hl
 have hll:=ok.ll;rw [zQk hh];simp only [];have HQ:Hid (∀ v1 v2 w',Below w.heap.size w w'→w'.ownsRow w.heap.size 53 3 v1 ((bs[h]).2.2.toNat-(bs[h]).2.1.toNat) (yF (piece l (bs[h]).2.1.toNat (bs[h]).2.2.toNat))→w'.ownsRow w.heap.size 3 1 v2 ((bs[h]).2.2.toNat-(bs[h]).2.1.toNat) (rngV (bs[h]).2.1.toNat ((bs[h]).2.2.toNat-(bs[h]).2.1.toNat))→instPost (srcL l (bs[h]).2.1.toNat (bs[h]).2.2.toNat) w (.returned (.tuple #[v1,v2])) w'):=Hd fun v1 v2 w' h1 h2 h3=>by
  unfold instPost;rw [zXe,zNa l (by omega) (by omega),yBs];exact ⟨v1,v2,rfl,h1,h2,h3⟩
 generalize instPost (srcL l (bs[h]).2.1.toNat (bs[h]).2.2.toNat) w=Q at *;have C1:=Hd (zOq t hs ok.tl ok.hl p hp vt vh w hi.T hi.H);rw [ho] at C1;simp only [holeI] at C1;obtain ⟨ba,bc,rfl,hbc⟩:=Row.shape hi.B;obtain ⟨bb,bo,rfl,_,_,hbb,hcell⟩:=hi.B.at (bR _ _) (show 0<bs.length by omega);have HC:Hid (∀ W,Below w.heap.size w W→W.cell? ⟨bb,bo+h*3+1,none⟩=some (.int .i64 (bs[h]).2.1)∧W.cell? ⟨bb,bo+h*3+2,none⟩=some (.int .i64 (bs[h]).2.2)):=Hd fun W hb=>by
  obtain ⟨b',o',e',_,_,_,hcc⟩:=hi.B.at hb (show 0<bs.length by omega);simp only [Option.some.injEq,Addr.mk.injEq,and_true] at e';obtain ⟨rfl,rfl⟩:=e';exact ⟨(hcc h hh).2.1,(hcc h hh).2.2⟩
 obtain ⟨fr,hfr⟩:∃ fr:Nat,(bs[h]).2.1=(fr:Int):=⟨(bs[h]).2.1.toNat,by omega⟩;obtain ⟨tx,htx⟩:∃ tx:Nat,(bs[h]).2.2=(tx:Int):=⟨(bs[h]).2.2.toNat,by omega⟩;rw [hfr,htx] at HQ HC hbi;simp only [Int.toNat_natCast] at HQ;have h12:fr≤tx:=by omega
 have h2l:tx≤l.length:=by omega
 obtain ⟨sp,sc,hsl,hpr⟩:=kD w vl l hi.L fr tx h12 h2l;have hpl:(piece l fr tx).length=tx-fr:=vW h12 h2l;have HPR:=Hd hpr;have HCP:=Hd (fun W (hb:Below w.heap.size w W)=>zRv W (piece l fr tx) (by omega) (.slice sp (tx-fr) sc) (hpr.below hb));obtain ⟨ta,tc,rfl,htc⟩:=hi.T.slice;obtain ⟨ha,hc,rfl,hhc⟩:=Row.shape hi.H;obtain ⟨la,lc,rfl,hlc⟩:=hi.L.slice;rw [hpl] at HCP;have hh0:(0:Int)≤(h:Int):=by omega
 have hhl:(h:Int)<bs.length:=by omega
 have hhb:(h:Int)<(bc:Int):=by omega
 have hft:(fr:Int)≤(tx:Int):=by omega
 have htl:(tx:Int)≤l.length:=by omega
 have hf0:(0:Int)≤(fr:Int):=by omega
 clear hi hcell hfr htx hpr hpl hbi ho;generalize piece l fr tx=PC at *;go_enter Tryz.func16,Tryz.ntmps16;go_wp2_with fail;refine C1.out.mono ?_;rintro e w1 ⟨rfl,hb1⟩;have HB1:=Hd hb1;obtain ⟨c1,c2⟩:=HC.out w1 hb1;clear hb1 C1;go_wp2_with fail;clear c1 c2;go_loopw [13,14] (fun fv iv wr=>ihRel fr tx w1 fv iv wr) (fun _ iv _=>tx-(intOf iv).toNat)
 case atStart=>exact ⟨fr,rfl,nR _,h12,by rw [Nat.sub_self];exact World.ownsRow_nil _ _ _ _,bR _ _⟩
 case round =>
  obtain ⟨i,rfl,hfi,hit,hof,hb⟩:=hrel;obtain ⟨fa,fc,rfl,hfc⟩:=Row.shape (Row.of_owns hof);have HB:=Hd hb;have HOF:=Hd hof;have HBW:=Hd (zC HB1.out hb);obtain ⟨c1,c2⟩:=HC.out wr HBW.out;clear hb hof hfc;by_cases hlt:i<tx
  ·have hii:(i:Int)<(tx:Int):=by omega
   have hwi:IntKind.i64.wrap ((i:Int)+1)=(i:Int)+1:=wI (by omega);have hbs:=HB.out.size;have HEQ:Hid (rngV fr (i+1-fr)=rngV fr (i-fr)++[.int .i64 (i:Int)]∧i+1-fr=i-fr+1):=Hd (by
    have e:i+1-fr=i-fr+1:=by omega
    rw [e,zVp,show fr+(i-fr)=i by omega];exact ⟨rfl,rfl⟩)
   go_wp2_with (at_builtin;refine yA wr #[.int .i64 (i:Int)] _ rfl _ _ 54 3 rfl Tryz.underlying54 w1.heap.size kQ rfl (by decide) _ _ _ rfl HOF.out 1 1 rfl rfl (by decide) (by intro u hu;simp at hu;subst hu;rfl) (by omega) (by omega) hbs ?_);intro v' w' hown hgr _;have hb':=vU HB.out hbs HOF.out hgr;have HX:Hid (ihRel fr tx w1 v' (.int .i64 ((i:Int)+1)) w'):=Hd ⟨i+1,by push_cast;rfl,by omega,hlt,by rw [HEQ.out.1,HEQ.out.2];exact hown,hb'⟩;clear hown hgr hb' c1 c2;go_wp2_with fail;exact ⟨HX.out,by simp only [intOf];omega⟩
  ·obtain rfl:i=tx:=by omega
   have hii:¬ (i:Int)<(i:Int):=by omega
   have HBD:Hid (Below w.heap.size w wr.drew):=Hd HBW.out.drew;obtain ⟨v',w',hrun,hown,hbl⟩:=HCP.out wr.drew HBD.out;have HRUN:=Hd (show (Builtin.append_ #[25,25] 25 #[.slice (some ⟨wr.heap.size,0,none⟩) 0 0,.slice sp (i-fr) sc]).run Tryz.prog ((wr.alloc (.cells #[] 53)).drew)=.ok v' w' from hrun);have HFIN:=Hd (HQ.out v' (.slice fa (i-fr) fc) w' (zC HBD.out hbl) (vV hown HBW.out.size) (vV (zY (zY HOF.out (bR _ _).drew) hbl) HB1.out.size));have HS:Hid (∀ W,Below w.heap.size w W→W.cell? ⟨bb,bo+h*3+1,none⟩=some (.int .i64 (fr:Int))∧W.cell? ⟨bb,bo+h*3+2,none⟩=some (.int .i64 (i:Int))):=Hd HC.out;have HBL:=Hd (zC HBD.out hbl);obtain ⟨va',vn',vc',rfl⟩:=zO hown;clear hrun hown hbl;go_upto_region 8 with (fail);clear c1 c2
   go_region_held3 (fun W=>W.cell? ⟨bb,bo+h*3+1,none⟩=some (.int .i64 (fr:Int))∧W.cell? ⟨bb,bo+h*3+2,none⟩=some (.int .i64 (i:Int))) (first | exact HS.out _ HBD.out | exact HS.out _ (HBD.out.alloc HBD.out.size _) | exact HS.out _ (HBW.out.alloc HBW.out.size _).drew | exact HS.out _ HBL.out) ((rw [iP (by kernel_rfl)];with_reducible (show Oper.wp _ _ _ ((wr.alloc (.cells #[] 53)).drew) _ _);refine zM _ _ _ _ HRUN.out rfl rfl rfl rfl ?_))
   all_goals
    go_wp2_with fail;exact HFIN.out
theorem InW.start {w0 w1:World} (hb:Below w0.heap.size w0 w1) (kp:Nat→Nat) (ka:Option Addr) (pk:Nat) (pn:Int) (pw:ByteArray) :
  ((w1.alloc (.cells #[.int .u8 (pk:Int),.int .i64 pn,.string pw] 53)).alloc (.cells #[.int .i64 (-1)] 3)).cell? ⟨w1.heap.size,1,none⟩=some (.int .i64 pn) ∧
  ((w1.alloc (.cells #[.int .u8 (pk:Int),.int .i64 pn,.string pw] 53)).alloc (.cells #[.int .i64 (-1)] 3)).frozen? ⟨w1.heap.size,1,none⟩=false ∧
  InW w0 0 kp ka pk pw [] (.slice (some ⟨w1.heap.size,0,none⟩) 1 1) (.slice (some ⟨w1.heap.size+1,0,none⟩) 1 1) (((w1.alloc (.cells #[.int .u8 (pk:Int),.int .i64 pn,.string pw] 53)).alloc (.cells #[.int .i64 (-1)] 3)).setCell ⟨w1.heap.size,1,none⟩ (.int .i64 0)):=by
 have h1:((w1.alloc (.cells #[.int .u8 (pk:Int),.int .i64 pn,.string pw] 53)).alloc (.cells #[.int .i64 (-1)] 3)).heap[w1.heap.size]?=some (.cells #[.int .u8 (pk:Int),.int .i64 pn,.string pw] 53 (0,0)):=by
  rw [Below.heap_alloc _ _ _ (by simp)];exact heap_alloc_new _ _
 have h2:((w1.alloc (.cells #[.int .u8 (pk:Int),.int .i64 pn,.string pw] 53)).alloc (.cells #[.int .i64 (-1)] 3)).heap[w1.heap.size+1]?=some (.cells #[.int .i64 (-1)] 3 (0,0)):=by
  have:=heap_alloc_new (w1.alloc (.cells #[.int .u8 (pk:Int),.int .i64 pn,.string pw] 53)) (.cells #[.int .i64 (-1)] 3);rw [World.size_alloc] at this;exact this
 have h3:Below w0.heap.size w0 ((w1.alloc (.cells #[.int .u8 (pk:Int),.int .i64 pn,.string pw] 53)).alloc (.cells #[.int .i64 (-1)] 3)):=(hb.alloc hb.size _).alloc (by have:=hb.size;simp;omega) _;generalize (w1.alloc (.cells #[.int .u8 (pk:Int),.int .i64 pn,.string pw] 53)).alloc (.cells #[.int .i64 (-1)] 3)=W2 at *;have hs:=hb.size;have e1:=heap_setCell_same W2 w1.heap.size 1 _ _ (.int .i64 0) h1;have e2:(W2.setCell ⟨w1.heap.size,1,none⟩ (.int .i64 0)).heap[w1.heap.size+1]?=W2.heap[w1.heap.size+1]?:=heap_setCell_other _ _ _ _ (by simp);refine ⟨by simp [World.cell?,h1],by simp [World.frozen?,h1],⟨?_,?_,fun c hc=>absurd hc (Nat.not_lt_zero _),h3.setCell (p:=⟨w1.heap.size,1,none⟩) hs _⟩⟩
 ·exact ⟨rfl,Or.inr ⟨w1.heap.size,1,_,rfl,hs,e1,nR _,by decide,rfl,rfl⟩⟩
 ·exact ⟨rfl,Or.inr ⟨w1.heap.size+1,1,_,rfl,by omega,e2.trans h2,nR _,by decide,rfl,rfl⟩⟩
theorem InW.kids {w0 W w5:World} {q kc:Nat} {kp:Nat→Nat} {ka ka':Option Addr} {hk:Nat} {hw:ByteArray} {M:List PN} {ov fv:Value} {ks:List Nat} (h:InW w0 0 kp ka' hk hw M ov fv W) (hb:Below W.heap.size W w5) (ho:w5.ownsRow W.heap.size 3 1 (.slice ka q kc) q (natV ks)) (hks:∀ c,c<q→ks[c]?=some (kp c)):InW w0 q kp ka hk hw M ov fv w5:=by
 have h5:=h.below hb;refine ⟨h5.o,h5.f,fun c hc=>?_,h5.b⟩;rcases ho.2 with ⟨_,h0⟩ | ⟨g,cap,cur,hv,hg,hh,hnc,_,hcs,htk⟩
 ·omega
 ·simp only [Value.slice.injEq] at hv;obtain ⟨rfl,_,rfl⟩:=hv;refine ⟨g,rfl,fun e=>?_,fun e=>?_,?_⟩
  ·have:=(h.o.lt g e).2;omega
  ·have:=(h.f.lt g e).2;omega
  ·rw [ho.cellAt _ (by omega)];unfold natV;rw [List.getElem?_map,hks c hc];rfl
def inRel (t l:List Prt) (hs:List Hl) (bs:List Bnd) (n q:Nat) (kp:Nat→Nat) (pend:Nat) (ka:Option Addr) (hk:Nat) (hw:ByteArray) (MK:List PN) (w0:World) (ov fv nv:Value) (wr:World):Prop :=
 ∃ (c N:Nat) (M:List PN),nv=.int .i64 (c:Int)∧c≤q∧M++mKids t l hs (bOf bs) N (kp c) pend=MK∧2*(pend-kp c)+1≤N∧N≤n∧(∃ us,zD (M.map (·.1))=some us)∧InW w0 q kp ka hk hw M ov fv wr
theorem zVr {t l:List Prt} {hs:List Hl} {bs:List Bnd} (ok:InOK t l hs bs) (vt vh vb vl:Value) (n:Nat) (ih:∀ m,m<n+1→InstC t l hs bs vt vh vb vl m) (w:World) (p:Nat) (hi:InE t l hs bs vt vh vb vl w) (hp:p<t.length) (hfuel:2*(zB t p-p)≤n+1) (hlen:(mPart t l hs (bOf bs) (n+1) p).length≤1000000000) (ho:zL t hs p=none) :
  Calls Tryz.prog 16 #[vt,vh,vb,vl,.int .i64 (p:Int)] w (instPost (mPart t l hs (bOf bs) (n+1) p) w):=by
 have hho:=ho;obtain ⟨MK,hMK⟩:∃ MK,mKids t l hs (bOf bs) n (p+1) (zB t p)=MK:=⟨_,rfl⟩;rw [zTa ho hp,hMK] at hlen;rw [zTa ho hp,hMK];have HQ:Hid (∀ v1 v2 w',Below w.heap.size w w'→w'.ownsRow w.heap.size 53 3 v1 (MK.length+1) (yF (((t[p]).1,(cntP (MK.map (·.1)):Int),(t[p]).2.2)::MK.map (·.1)))→w'.ownsRow w.heap.size 3 1 v2 (MK.length+1) (intsV (-1::MK.map (·.2)))→instPost ((((t[p]).1,(cntP (MK.map (·.1)):Int),(t[p]).2.2),-1)::MK) w (.returned (.tuple #[v1,v2])) w'):=Hd fun v1 v2 w' h1 h2 h3=>by
  unfold instPost;exact ⟨v1,v2,rfl,h1,h2,h3⟩
 generalize instPost ((((t[p]).1,(cntP (MK.map (·.1)):Int),(t[p]).2.2),-1)::MK) w=Q at *;obtain ⟨q,kp,KS⟩:=yCf (zJ ok.H.well) hp;have htl:=ok.tl;have hgf:=zP (zJ ok.H.well) hp;have C1:=Hd (zOq t hs ok.tl ok.hl p hp vt vh w hi.T hi.H);rw [hho] at C1;simp only [holeI] at C1;have CKI:=Hd (fun W (hb:Below w.heap.size w W)=>zOr t (by omega) _ (zJ ok.H.well) vt p hp W (hi.T.below hb));have HTR:=Hd (fun W (L:List Prt) (v:Value) (h1:L.length≤1000000000) (ts:List Nat) (h2:zD L=some ts) (hr:zF W v L)=>show Calls Tryz.prog 13 #[v] W fun e w'=>e=.returned (.int .i64 (ts.length:Int))∧W=w' by
  have:=zEp L h1 v W hr;rw [show jL L=(ts.length:Int) by unfold jL;rw [h2]] at this;exact this)
 obtain ⟨ta,tc,rfl,htc⟩:=hi.T.slice;obtain ⟨ha,hc,rfl,hhc⟩:=Row.shape hi.H;obtain ⟨ba,bc,rfl,hbc⟩:=Row.shape hi.B;obtain ⟨la,lc,rfl,hlc⟩:=hi.L.slice;obtain ⟨tb,tf,rfl,_,_,htb,hcell⟩:=hi.T.at (bR _ _) (show 0<t.length by omega);have HC:Hid (∀ W,Below w.heap.size w W→W.cell? ⟨tb,tf+p*3,none⟩=some (.int .u8 ((t[p]).1:Int))∧W.cell? ⟨tb,tf+p*3+1,none⟩=some (.int .i64 (t[p]).2.1)∧W.cell? ⟨tb,tf+p*3+2,none⟩=some (.string (t[p]).2.2)):=Hd fun W hb=>by
  obtain ⟨b',o',e',_,_,_,hcc⟩:=hi.T.at hb (show 0<t.length by omega);simp only [Option.some.injEq,Addr.mk.injEq,and_true] at e';obtain ⟨rfl,rfl⟩:=e';exact hcc p hp
 have HI:=Hd hi;have HOK:=Hd ok;have HIH:=Hd ih;have HKS:=Hd KS;have HMK:=Hd hMK;have HFU:=Hd hfuel;have HLN:=Hd hlen;have hp0:(0:Int)≤(p:Int):=by omega
 have hpl:(p:Int)<t.length:=by omega
 have hpc:(p:Int)<(tc:Int):=by omega
 have hqn:=KS.n;clear hi ok ih KS hMK hfuel hlen hcell ho;generalize t[p]=tp at *;obtain ⟨pk,pn,pw⟩:=tp;simp only [] at HC HQ;go_enter Tryz.func16,Tryz.ntmps16;go_wp2_with fail;refine C1.out.mono ?_;rintro e w1 ⟨rfl,hb1⟩;have HB1:=Hd hb1;obtain ⟨c0,c1,c2⟩:=HC.out w1 hb1;obtain ⟨y1,z1,hW3⟩:=InW.start hb1 kp none pk pn pw;have HW3:=Hd hW3;clear hb1 C1 hW3;go_upto_region 11 with (fail);clear c0 c1 c2;generalize (w1.alloc (.cells #[.int .u8 (pk:Int),.int .i64 pn,.string pw] 53)).alloc (.cells #[.int .i64 (-1)] 3)=W2 at *;generalize w1.heap.size=g1 at *;go_upto_region 12 with (fail);clear y1 z1;generalize W2.setCell ⟨g1,1,none⟩ (.int .i64 0)=W3 at *;have CK:=Hd (CKI.out W3 HW3.out.b);clear CKI;go_wp2_with fail;refine CK.out.mono ?_;intro e w5 h5;unfold kidsOwn at h5;obtain ⟨kv,rfl,hb5,ho5⟩:=h5;rw [HKS.out.len] at ho5;obtain ⟨ka,kc,rfl,hkc⟩:=Row.shape (Row.of_owns ho5);have HW5:=Hd (HW3.out.kids hb5 ho5 HKS.out.get);clear hb5 ho5 CK HW3;go_wp2_with fail;go_loopw [15,16,18] (fun ov fv nv wr=>inRel t l hs bs n q kp (zB t p) ka pk pw MK w ov fv nv wr) (fun _ _ nv _=>q-(intOf nv).toNat)
 case atStart=>exact ⟨0,n,[],rfl,Nat.zero_le _,by rw [HKS.out.z];exact HMK.out,by rw [HKS.out.z];have:=HFU.out;omega,nR _,⟨[],kE⟩,HW5.out⟩
 case round =>
  obtain ⟨c,N,M,rfl,hc,hM,hN,hNn,⟨us,hus⟩,hw⟩:=hrel;have HW:=Hd hw;have HM:=Hd hM;have HUS:=Hd hus;have HN:=Hd hN;have HNN:=Hd hNn;obtain ⟨oa,oc,rfl,hoc⟩:=Row.shape (Row.of_owns hw.o);obtain ⟨fa,fc,rfl,hfc⟩:=Row.shape (Row.of_owns hw.f);obtain ⟨N,rfl⟩:∃ N',N=N'+1:=⟨N-1,by omega⟩;clear hw hM hus hN hNn;by_cases hlt:c<q
  ·obtain ⟨gk,rfl,_,_,k0⟩:=HW.out.k c hlt;have hx:=HKS.out.lt c hlt;have hup:=HKS.out.up c hlt;have hle:=HKS.out.le (c+1) hlt;have hnx:=HKS.out.nx c hlt;have hN:=HN.out;have hMK:=HM.out;rw [yAy (show kp c≠zB t p by omega),hnx] at hMK;have hml:=congrArg List.length hMK;have hln:=HLN.out;rw [lA,lA] at hml;rw [lC] at hln;have hPL:(mPart t l hs (bOf bs) N (kp c)).length≤1000000000:=by omega
   have hPM:M.length+(mPart t l hs (bOf bs) N (kp c)).length≤1000000000:=by omega
   obtain ⟨ts,hts⟩:=zQl (t:=t) (hs:=hs) (zXh HOK.out.b) HOK.out.r N (kp c);have CI:=Hd (HIH.out N (by have:=HNN.out;omega) wr (kp c) (HI.out.below HW.out.b) hx (by rw [hnx];omega) hPL);have HF2:Hid (2*(zB t p-kp (c+1))+1≤N):=Hd (by omega);have HMK2:=Hd hMK;have hc0:(0:Int)≤(c:Int):=by omega
   have hcq:(c:Int)<(q:Int):=by omega
   have hck:(c:Int)<(kc:Int):=by omega
   have hwc:IntKind.i64.wrap ((c:Int)+1)=(c:Int)+1:=wI (by omega);have HMS:Hid (q-(c+1)<q-c):=Hd (by omega);clear hx hup hle hnx hN hMK hml hln HM HN;generalize mPart t l hs (bOf bs) N (kp c)=P at *;go_wp2_with fail;refine CI.out.mono ?_;intro e w6 h6;unfold instPost at h6;obtain ⟨va,vb,rfl,hb6,ha6,hn6⟩:=h6;obtain ⟨aa,ac,rfl,hac⟩:=Row.shape (Row.of_owns ha6);obtain ⟨na,nc,rfl,hnc⟩:=Row.shape (Row.of_owns hn6);have hd6:=(bR w6.heap.size w6).drew;have HB6:=Hd hb6.drew;have hrp:zF w6.drew (.slice aa P.length ac) (P.map (·.1)):=by
    unfold zF;rw [List.length_map];exact Row.of_owns (zY ha6 hd6)
   have CT:=Hd (HTR.out w6.drew (P.map (·.1)) _ (by rw [List.length_map];exact hPL) ts hts hrp);obtain ⟨g,cap,w8,w9,v8,v9,hov,hcap,hcell,hfz,hr8,hr9,hw9⟩:=InW.step (HW.out.below hb6.drew) HUS.out hts (zY ha6 hd6) (zY hn6 hd6) (fun g e=>(HW.out.o.lt g e).2) (fun g e=>(HW.out.f.lt g e).2) hPM;simp only [Value.slice.injEq,true_and] at hov;obtain ⟨rfl,rfl⟩:=hov;obtain ⟨a8,c8,rfl,_⟩:∃ a c,v8=.slice a _ c∧_≤c:=Row.shape (Row.of_owns hw9.o);obtain ⟨a9,c9,rfl,_⟩:∃ a c,v9=.slice a _ c∧_≤c:=Row.shape (Row.of_owns hw9.f);have HX:Hid (inRel t l hs bs n q kp (zB t p) (some ⟨gk,0,none⟩) pk pw MK w (.slice a8 ((M++P).length+1) c8) (.slice a9 ((M++P).length+1) c9) (.int .i64 ((c:Int)+1)) w9):=Hd ⟨c+1,N,M++P,by push_cast;rfl,hlt,by rw [List.append_assoc];exact HMK2.out,HF2.out,by have:=HNN.out;omega,⟨us++ts,by rw [List.map_append];exact kT HUS.out hts⟩,hw9⟩;rw [lA] at HX;have hul:us.length≤1000000000:=by
    have h1:=(zU HUS.out).2.1;rw [List.length_map] at h1;omega
   have htl2:ts.length≤1000000000:=by
    have h1:=(zU hts).2.1;rw [List.length_map] at h1;omega
   have hwu:IntKind.i64.wrap ((us.length:Int)+(ts.length:Int))=(us.length:Int)+(ts.length:Int):=wI (by omega);clear hb6 ha6 hn6 hd6 hrp hw9 hPM hPL CI k0 hts;go_upto_region 17 with (fail);have HTT:Hid True:=Hd trivial;refine wp_region_noPanic ?_;refine wp_region_held_drew (S:=fun _=>Hid True) (by kernel_rfl) HTT (fun hHeld=>?_);generalize w6.drew=wd at *;refine tH 0 90 hHeld ?_;refine tH 1 91 hHeld ?_;refine tH 2 92 hHeld ?_;refine tH 3 93 hHeld ?_;refine tH 5 95 hHeld ?_;refine wpAnyH_ready (rs:=[4,6]) (by kernel_rfl) (by simp) ?_;refine AllReadyH.cons (o:=⟨some 94,_,_,_,_,_⟩) rfl (fun K hK=>?qA) (AllReadyH.cons (o:=⟨some 96,_,_,_,_,_⟩) rfl (fun K hK=>?qB) AllReadyH.nil)
   case qA =>
    go_simp;refine hK.out _ _ HTT (fun hH2=>?_);clear hK K hHeld;(try simp only [qA,qL,qZ,qS])
    refine rH 6 (some 96) fun K hK=>?_;go_simp
    go_at_call 13
    refine CT.out.mono ?_;rintro e w4 ⟨rfl,rfl⟩;(try dsimp only)
    refine hK.out _ _ HTT (fun hH3=>?_);clear hK K hH2;(try simp only [qA,qL,qZ,qS])
    refine tH 7 97 hH3 ?_;refine tH 8 98 hH3 ?_;refine tH 9 99 hH3 ?_;refine rH 10 none fun K hK=>?_;go_simp;refine hK.out _ _ HTT (fun hH4=>?_);clear hK K hH3;(try simp only [qA,qL,qZ,qS])
    refine wpAnyH_done (by kernel_rfl) ?_ _;refine NoPanic.normal ?_;go_upto_region 18 with (fail);clear hcell hfz;go_upto_region 19 with (at_builtin;refine zE rfl _ _ _ _ hr8 rfl rfl rfl rfl ?_);clear hr8;go_wp2_with (at_builtin;refine zE rfl _ _ _ _ hr9 rfl rfl rfl rfl ?_);exact ⟨HX.out,by have:=HMS.out;simp only [intOf];omega⟩
   case qB =>
    go_simp
    go_at_call 13
    refine CT.out.mono ?_;rintro e w4 ⟨rfl,rfl⟩;(try dsimp only)
    refine hK.out _ _ HTT (fun hH2=>?_);clear hK K hHeld;(try simp only [qA,qL,qZ,qS])
    refine rH 4 (some 94) fun K hK=>?_;go_simp;refine hK.out _ _ HTT (fun hH3=>?_);clear hK K hH2;(try simp only [qA,qL,qZ,qS])
    refine tH 7 97 hH3 ?_;refine tH 8 98 hH3 ?_;refine tH 9 99 hH3 ?_;refine rH 10 none fun K hK=>?_;go_simp;refine hK.out _ _ HTT (fun hH4=>?_);clear hK K hH3;(try simp only [qA,qL,qZ,qS])
    refine wpAnyH_done (by kernel_rfl) ?_ _;refine NoPanic.normal ?_;go_upto_region 18 with (fail);clear hcell hfz;go_upto_region 19 with (at_builtin;refine zE rfl _ _ _ _ hr8 rfl rfl rfl rfl ?_);clear hr8;go_wp2_with (at_builtin;refine zE rfl _ _ _ _ hr9 rfl rfl rfl rfl ?_);exact ⟨HX.out,by have:=HMS.out;simp only [intOf];omega⟩
  ·obtain rfl:c=q:=by omega
   have hM:=HM.out;rw [HKS.out.e,yCp,List.append_nil] at hM;have HF:=Hd (HQ.out _ _ wr HW.out.b (by rw [← hM];exact HW.out.o) (by rw [← hM];exact HW.out.f));have hcq:¬ (c:Int)<(c:Int):=by omega
   clear hM;go_wp2_with fail;exact HF.out
theorem zZn {t l:List Prt} {hs:List Hl} {bs:List Bnd} (ok:InOK t l hs bs) (vt vh vb vl:Value):∀ n,InstC t l hs bs vt vh vb vl n:=by
 intro n;induction n using Nat.strongRecOn with
 | ind n ih =>
  intro w p hi hp hf hlen;have hg:=(zP (zJ ok.H.well) hp).1;obtain ⟨m,rfl⟩:∃ m,n=m+1:=⟨n-1,by omega⟩;cases ho:zL t hs p with
  | some h=>exact zVq ok vt vh vb vl m w p hi hp h ho
  | none=>exact zVr ok vt vh vb vl m ih w p hi hp hf hlen ho
end Go.Proofs.YtbjkdmbcpkopjaaGreatDoor
