/- Layer 18: the reference's comparisons of matches, walked. -/
import Derived.Test.YtbjkdmbcpkopjaaGreatDoorRefMAMt
import Derived.Test.YtbjkdmbcpkopjaaGreatDoorEachSMt
import Derived.Test.YtbjkdmbcpkopjaaGreatDoorStillMt
import Derived.Deep.RegionHeld3
import Derived.Test.YtbjkdmbcpkopjaaGreatDoorAllFMt
import Derived.Test.YtbjkdmbcpkopjaaGreatDoorChkPMt
import Derived.Test.YtbjkdmbcpkopjaaGreatDoorTerm2Mt
import Derived.Test.YtbjkdmbcpkopjaaGreatDoorRuleVMt
namespace Go.Proofs.YtbjkdmbcpkopjaaGreatDoor
set_option linter.all false
attribute [local irreducible] Calls
attribute [local irreducible] wpStill
open Go.RowKit

structure MchsIn (w:World) (v:Value) (xs:List MchX):Prop where
 R:Row w v xs.length 3 (mchsV xs)
 E:∀ x∈xs,BindRow w x.2 x.1.2.2
theorem MchsIn.at {w w':World} {a:Option Addr} {n cap:Nat} {xs:List MchX} (h:MchsIn w (.slice a n cap) xs) (hb:Below w.heap.size w w') (hp:0<xs.length) :
  ∃ b off,a=some ⟨b,off,none⟩∧xs.length≤cap∧b<w.heap.size∧∀ i (hi:i<xs.length),
   w'.cell? ⟨b,off+i*3,none⟩=some (.int .i64 (xs[i].1.1:Int))∧w'.cell? ⟨b,off+i*3+1,none⟩=some (.int .i64 (xs[i].1.2.1:Int))∧w'.cell? ⟨b,off+i*3+2,none⟩=some xs[i].2:=by
 obtain ⟨b,off,cap',hv,hc,hlt,hcell⟩:=Row.cells h.R hb hp;simp only [Value.slice.injEq] at hv;obtain ⟨rfl,rfl,rfl⟩:=hv;have key:∀ i (hi:i<xs.length) (j:Nat),j<3→w'.cell? ⟨b,off+i*3+j,none⟩=(mchV xs[i])[j]?:=fun i hi j hj=>by
  rw [Nat.add_assoc,hcell _ (by omega)];exact vO (g:=mchV) (sz:=3) (fun _=>rfl) xs i j hi hj
 exact ⟨b,off,rfl,hc,hlt,fun i hi=>⟨key i hi 0 (by omega),key i hi 1 (by omega),key i hi 2 (by omega)⟩⟩
end Go.Proofs.YtbjkdmbcpkopjaaGreatDoor
namespace Go.Proofs.YtbjkdmbcpkopjaaGreatDoor
set_option linter.all false
attribute [local irreducible] Calls
open Go.RowKit

theorem zEd {a b:Nat} (h:a≤b):∃ t,List.range b=List.range a++t:=by
 obtain ⟨c,rfl⟩:∃ c,b=a+c:=⟨b-a,by omega⟩;exact ⟨_,List.range_add⟩
theorem yAv {rules:List RuleM} {l:List Prt} {i:Nat} (hi:i≤l.length):∃ t,allM rules l=accM rules l i 0++t:=by
 obtain ⟨t,ht⟩:=zEd hi;refine ⟨t.flatMap (atM rules l),?_⟩;unfold allM accM;rw [ht,List.flatMap_append];simp
theorem yAw {rules:List RuleM} {l:List Prt} {i n:Nat} (hn:n≤rules.length):∃ t,accM rules l (i+1) 0=accM rules l i n++t:=by
 obtain ⟨t,ht⟩:=zEd hn;refine ⟨t.flatMap (oneM rules l i),?_⟩;rw [zAv];unfold accM;rw [ht,List.flatMap_append,List.append_assoc]
theorem yCo {rules:List RuleM} {l:List Prt} {i n:Nat} (hi:i<l.length) (hn:n<rules.length) {m:Mch} (h:oneM rules l i n=[m]):(allM rules l)[(accM rules l i n).length]?=some m:=by
 obtain ⟨t1,h1⟩:=yAv (rules:=rules) (l:=l) (i:=i+1) (by omega);obtain ⟨t2,h2⟩:=yAw (rules:=rules) (l:=l) (i:=i) (n:=n+1) (by omega);rw [h1,h2,gT,h,List.append_assoc,List.append_assoc,List.getElem?_append_right (nR _),Nat.sub_self];rfl
theorem zKp {rules:List RuleM} {l:List Prt} {i n:Nat} {r:RuleM} (hr:rules[n]?=some r):oneM rules l i n=match atZ r l i with
  | some τ=>[(n,i,bindsOf r.holes τ)]
  | none=>[]:=by
 unfold oneM;rw [hr];rfl
def FlatF (rules:List RuleM) (l:List Prt) (w0:World) (e:Ending) (w':World):Prop :=
 ∃ va vc xs,e=.returned (.tuple #[.slice va xs.length vc,.int .i64 (yR rules l)])∧xs.length≤vc∧xs.map (·.1)=(if yR rules l=0 then allM rules l else [])∧MchsIn w' (.slice va xs.length vc) xs∧Below w0.heap.size w0 w'∧w'.ownsRow w0.heap.size 44 3 (.slice va xs.length vc) xs.length (mchsV xs)∧∀ x∈xs,MemM w0.heap.size x w'
theorem zXg (rs:List RuleX) (hs:∀ x∈rs,SmallR x.1) (l:List Prt) (hl:SmallL l) (vr vl:Value) (w:World) (hT:Tabs w) (hM:MaxC w) (hr:xM w vr rs) (hlr:zF w vl l) :
  Calls Tryz.prog 10 #[vr,vl] w (FlatF (rs.map (·.1)) l w):=by
 refine (zWu rs hs l hl vr vl w hT hM hr hlr).mono fun e w' h=>?_;unfold fallPost at h;obtain ⟨hb,v,xs,he,hxs,hown,hmem⟩:=h;obtain ⟨va,vc,rfl,hvc⟩:=Row.shape (Row.of_owns hown);exact ⟨va,vc,xs,he,hvc,hxs,⟨Row.of_owns hown,fun x hx=>Row.of_owns (hmem x hx)⟩,hb,hown,hmem⟩
end Go.Proofs.YtbjkdmbcpkopjaaGreatDoor
namespace Go.Proofs.YtbjkdmbcpkopjaaGreatDoor
set_option linter.all false

theorem zTx {l:List Prt} {ts:List Nat} (h:zD l=some ts):jL l=(ts.length:Int):=by unfold jL;rw [h]
theorem zBp {hs:List Hl} {τ:MSt} (hn:τ.length=hs.length) {h:Nat} (hh:h<hs.length) {q:Nat×Nat} (hq:τ[h]?=some (some q)):∃ h2:h<(bindsOf hs τ).length,(bindsOf hs τ)[h]=((hs[h]).1,(q.1:Int),(q.2:Int)):=by
 have h1:h<τ.length:=by omega
 have h2:h<(bindsOf hs τ).length:=by unfold bindsOf;rw [List.length_zipWith];omega
 refine ⟨h2,?_⟩;have e:τ[h]=some q:=by rw [gE h1] at hq;exact Option.some.inj hq
 have e2:(bindsOf hs τ)[h]=bindOf hs[h] τ[h]:=List.getElem_zipWith;rw [e2,e];rfl
theorem zJj {r:RuleM} {l:List Prt} {i:Int} {τ:MSt} (h:atZ r l i=some τ):(fun k=>piece l (bOf (bindsOf r.holes τ) k).1 (bOf (bindsOf r.holes τ) k).2)=valOf l τ:=by
 obtain ⟨h1,h2,h3,h4,h5,h6,h7⟩:=fU h
 funext k
 by_cases hk:k<r.holes.length
 ·obtain ⟨q,hq,_⟩:=h7 k hk;obtain ⟨hb,e⟩:=zBp h6 hk hq;unfold valOf;rw [hq,zQk hb,e];simp
 ·have e1:τ[k]?=none:=List.getElem?_eq_none (by omega);have e2:(bindsOf r.holes τ)[k]?=none:=List.getElem?_eq_none (by unfold bindsOf;rw [List.length_zipWith];omega);unfold valOf bOf;rw [e1,e2];exact fL l 0
theorem zQm {r:RuleM} {l:List Prt} {i:Nat} {τ:MSt} (h:atZ r l (i:Int)=some τ) {k:Nat} (hk:k<r.holes.length):∃ q1 q2 n:Nat,(∃ hb:k<(bindsOf r.holes τ).length,(bindsOf r.holes τ)[k]=((r.holes[k]).1,(q1:Int),(q2:Int)))∧i≤q1∧q1≤q2∧q2≤zB l i∧jL (piece l q1 q2)=(n:Int)∧(isSev (r.holes[k]).2=false→n=1∧q1<l.length∧mayB (r.holes[k]).2 (zT l q1)=true):=by
 obtain ⟨h1,h2,h3,h4,h5,h6,h7⟩:=fU h;obtain ⟨q,hq,g1,g2,g3,⟨K,g4⟩,g5⟩:=h7 k hk;rw [show ((i:Int)).toNat=i by omega] at g1 g3;have hl:=zJ h2;have he:=zP hl (show i<l.length by omega);obtain ⟨ts,t1,t2⟩:=zCf hl K q.1 q.2 (by omega) g4;have hkd:hkind r.holes k=(r.holes[k]).2:=by unfold hkind;rw [gE hk]
 rw [hkd] at g5;refine ⟨q.1,q.2,ts.length,zBp h6 hk hq,g1,g2,g3,zTx t1,fun hs=>?_⟩;obtain ⟨a1,a2,a3⟩:=g5 hs;obtain ⟨t,ht⟩:=zDe hl a1;rw [a2,t1] at ht;cases ht
 exact ⟨rfl,a1,a3⟩
theorem zQn {r:RuleM} {l:List Prt} {i:Int} {τ:MSt} (h:atZ r l i=some τ):BindsIn (bindsOf r.holes τ) l∧(∀ k,∃ ts,zD (piece l (bOf (bindsOf r.holes τ) k).1 (bOf (bindsOf r.holes τ) k).2)=some ts)∧(mPart r.fnd l r.holes (bOf (bindsOf r.holes τ)) (fuelZ r.fnd) 0).map (·.1)=piece l i.toNat (zB l i.toNat):=by
 obtain ⟨h1,h2,h3,h4,h5,h6,h7⟩:=fU h;have hl:=zJ h2;have he:=zP hl (show i.toNat<l.length by omega);have hb:BindsIn (bindsOf r.holes τ) l:=by
  intro x hx;obtain ⟨k,hk,rfl⟩:=List.mem_iff_getElem.1 hx;have hk':k<r.holes.length:=by unfold bindsOf at hk;rw [List.length_zipWith] at hk;omega
  obtain ⟨q,hq,g1,g2,g3,_,_⟩:=h7 k hk';obtain ⟨_,e⟩:=zBp h6 hk' hq;rw [e];simp only [];omega
 refine ⟨hb,fun k=>?_,?_⟩
 ·have e:piece l (bOf (bindsOf r.holes τ) k).1 (bOf (bindsOf r.holes τ) k).2=valOf l τ k:=congrFun (zJj h) k;rw [e];unfold valOf;by_cases hk:k<r.holes.length
  ·obtain ⟨q,hq,g1,g2,g3,⟨K,g4⟩,_⟩:=h7 k hk;obtain ⟨ts,t1,_⟩:=zCf hl K q.1 q.2 (by omega) g4;rw [hq];exact ⟨ts,t1⟩
  ·rw [List.getElem?_eq_none (by omega)];exact ⟨[],kE⟩
 ·rw [(zQh r.fnd l r.holes (bOf (bindsOf r.holes τ)) (zXh hb) (fuelZ r.fnd)).1 0,zJj h];exact zOw h
section
variable (t:List Prt) (hs:List Hl) (b:Nat→Nat×Nat)
end
section
variable {t l:List Prt} {hs:List Hl} {b:Nat→Nat×Nat}
end
end Go.Proofs.YtbjkdmbcpkopjaaGreatDoor
