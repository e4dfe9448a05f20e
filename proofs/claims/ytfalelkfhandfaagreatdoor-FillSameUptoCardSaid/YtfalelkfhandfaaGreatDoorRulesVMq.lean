/- Rules in a row, as memory holds them. -/
import Derived.Test.YtfalelkfhandfaaGreatDoorFindPMq
import Derived.Test.YtfalelkfhandfaaGreatDoorMapSMq
import Derived.Test.YtfalelkfhandfaaGreatDoorSeekFMq
namespace Go.Proofs.YtfalelkfhandfaaGreatDoor
set_option linter.all false
open Go.RowKit

abbrev RuleX:=RuleM×Value×Value×Value
def ruleV (x:RuleX):List Value:=[.string x.1.nm,.int .u8 (x.1.goal:Int),x.2.1,x.2.2.1,x.2.2.2]
structure yY (w:World) (v:Value) (rs:List RuleX):Prop where
 R:Row w v rs.length 5 (rs.flatMap ruleV)
 E:∀ x∈rs,RuleIn w x.1 x.2.1 x.2.2.1 x.2.2.2
theorem yY.below {w w':World} {v:Value} {rs:List RuleX} (h:yY w v rs) (hb:Below w.heap.size w w'):yY w' v rs:=⟨Row.below h.R hb,fun x hx=>(h.E x hx).below hb⟩
theorem yY.shape {w:World} {v:Value} {rs:List RuleX} (h:yY w v rs):∃ a cap,v=.slice a rs.length cap∧rs.length≤cap:=Row.shape h.R
theorem yY.at {w w':World} {a:Option Addr} {n cap:Nat} {rs:List RuleX} (h:yY w (.slice a n cap) rs) (hb:Below w.heap.size w w') (hp:0<rs.length) :
  ∃ b off,a=some ⟨b,off,none⟩∧n=rs.length∧rs.length≤cap∧b<w.heap.size∧∀ i (hi:i<rs.length),
   w'.cell? ⟨b,off+i*5,none⟩=some (.string rs[i].1.nm)∧w'.cell? ⟨b,off+i*5+1,none⟩=some (.int .u8 (rs[i].1.goal:Int))∧w'.cell? ⟨b,off+i*5+2,none⟩=some rs[i].2.1∧w'.cell? ⟨b,off+i*5+3,none⟩=some rs[i].2.2.1∧w'.cell? ⟨b,off+i*5+4,none⟩=some rs[i].2.2.2:=by
 obtain ⟨b,off,cap',hv,hc,hlt,hcell⟩:=Row.cells h.R hb hp
 simp only [Value.slice.injEq] at hv
 obtain ⟨rfl,rfl,rfl⟩:=hv
 have key:∀ i (hi:i<rs.length) (j:Nat),j<5→w'.cell? ⟨b,off+i*5+j,none⟩=(ruleV rs[i])[j]?:=fun i hi j hj=>by
  rw [Nat.add_assoc,hcell _ (by omega)]
  exact vY (g:=ruleV) (sz:=5) (fun _=>rfl) rs i j hi hj
 refine ⟨b,off,rfl,rfl,hc,hlt,fun i hi=>⟨?_,?_,?_,?_,?_⟩⟩
 ·exact key i hi 0 (by omega)
 ·exact key i hi 1 (by omega)
 ·exact key i hi 2 (by omega)
 ·exact key i hi 3 (by omega)
 ·exact key i hi 4 (by omega)
end Go.Proofs.YtfalelkfhandfaaGreatDoor
namespace Go.Proofs.YtfalelkfhandfaaGreatDoor
set_option linter.all false

theorem zLy (hs:List Hl) (h:Hl) (hd:∀ g∈hs,g.1≠h.1):(fun x=>if x=h.1 then some (hs.length:Int) else holeM hs x)=holeM (hs++[h]):=by
 funext x
 unfold holeM
 rw [List.findIdx?_append]
 by_cases e:x=h.1
 ·subst e
  have h1:List.findIdx? (fun g:Hl=>decide (h.1=g.1)) hs=none:=by
   rw [List.findIdx?_eq_none_iff]
   intro g hg
   simp [Ne.symm (hd g hg)]
  rw [if_pos rfl,h1]
  simp [List.findIdx?_cons]
 ·rw [if_neg e]
  have h2:List.findIdx? (fun g:Hl=>decide (x=g.1)) [h]=none:=by
   rw [List.findIdx?_eq_none_iff]
   intro g hg
   simp at hg
   subst hg
   simp [e]
  rw [h2]
  simp
theorem zCg:∀ hs:List Hl,bindsOf hs (startS hs)=hs.map fun h=>(h.1,0,0)
 | []=>rfl
 | h::hs=>by
  have:=zCg hs
  unfold bindsOf startS at this ⊢
  rw [List.length_cons,List.replicate_succ,List.zipWith_cons_cons,this]
  rfl
theorem zJj (hs:List Hl):boundV (startS hs)=List.replicate hs.length (.bool false):=by
 unfold boundV startS;simp
end Go.Proofs.YtfalelkfhandfaaGreatDoor
namespace Go.Proofs.YtfalelkfhandfaaGreatDoor
set_option linter.all false
attribute [local irreducible] Calls
open Go.RowKit

theorem zTz {σ:MSt} {h:Nat} {o p:Option (Nat×Nat)} (hq:σ[h]?=some o):(σ.set h p).set h o=σ:=by
 rw [List.set_set]
 apply List.ext_getElem?
 intro j
 rw [List.getElem?_set]
 by_cases e:h=j
 ·subst e
  have:h<σ.length:=by
   by_cases c:h<σ.length
   ·exact c
   ·rw [List.getElem?_eq_none (by omega)] at hq;cases hq
  rw [if_pos rfl,if_pos this,hq]
 ·rw [if_neg e]
set_option maxRecDepth 100000 in
set_option maxHeartbeats 16000000 in
theorem zLi (E:SkE) (ok:SkOK E) (w:World) (σ:MSt) (hi:SkIn E σ w) (h:Nat) (hh:h<E.hs.length) (a b:Nat) (h1:a≤b) (h2:b≤E.l.length) (K:MSt→Option MSt) (tv:Value) (ht:ThenOK E K tv w) (hq:σ[h]?=some none) :
  Calls Tryz.prog 118 #[.pointer (some ⟨E.g,0,none⟩),.int .i64 (h:Int),.int .i64 (a:Int),.int .i64 (b:Int),tv] w (seekPost E ((bindS E.l σ h a b).bind K) σ w):=by
 have hbs:(bindS E.l σ h a b).bind K=K (σ.set h (some (a,b))):=by unfold bindS;rw [hq];rfl
 rw [hbs]
 obtain ⟨Q,hQ⟩:∃ Q,seekPost E (K (σ.set h (some (a,b)))) σ w=Q:=⟨_,rfl⟩
 have HQ:RowKit.Hid (∀ e w',seekPost E (K (σ.set h (some (a,b)))) σ w e w'→Q e w'):=Hd fun e w' h=>by rw [← hQ];exact h
 rw [hQ]
 clear hQ hbs
 obtain ⟨k,cap,rfl,hcf,HT⟩:=ht
 have hcf:=hcf cap
 have HT:=Hd HT
 obtain ⟨gb,cb,hvb,hcb,hB,hgb,b0,b1,b2,bz⟩:=hi.bindAt hh hq
 obtain ⟨gz,cz,hvz,hcz,hBz,hgz,z0,zz⟩:=hi.boundAt hh hq
 simp only [bindOf,Option.isSome_none] at b1 b2 z0
 have hgs:E.g<w.heap.size:=lt_of_block hi.st.now.s
 have c6:=hi.st.now.cells.2.2.2.2.2.2.1
 have c7:=hi.st.now.cells.2.2.2.2.2.2.2
 have HST1:=Hd (fun W (hi':SkIn E σ W)=>hi'.store ok.ne hh (o:=some (a,b)) (fun q e=>by cases e;exact ⟨h1,h2⟩) hvb hvz (v0:=.string (E.hs[h]).1) (v1:=.int .i64 (a:Int)) (v2:=.int .i64 (b:Int)) rfl)
 have HST2:=Hd (fun W (hi':SkIn E (σ.set h (some (a,b))) W)=>hi'.store ok.ne hh (o:=none) (fun q e=>by cases e) hvb hvz (v0:=.string (E.hs[h]).1) (v1:=.int .i64 0) (v2:=.int .i64 0) rfl)
 rw [zTz hq] at HST2
 have HBO:RowKit.Hid (some gb=E.vb.ownBlock):=Hd (by rw [hvb];rfl)
 have HZO:RowKit.Hid (some gz=E.vz.ownBlock):=Hd (by rw [hvz];rfl)
 rw [hvb] at c6
 rw [hvz] at c7
 have hh0:(0:Int)≤(h:Int):=by omega
 have hhl:(h:Int)<E.hs.length:=by omega
 have hhn:=ok.hn
 have HI:=Hd hi
 have HB:RowKit.Hid (Below w.heap.size w (w.alloc (.cells #[.string (E.hs[h]).1,.int .i64 (a:Int),.int .i64 (b:Int)] 52))):=Hd ((Below.refl _ _).alloc (Nat.le_refl _) _)
 clear hi
 simp only [Option.isSome_some,Option.isSome_none] at HST1 HST2
 generalize (E.hs[h]).1=nm at *
 go_enter Tryz.func118,Tryz.ntmps118
 go_wp2_with fail
 have x0:(w.alloc (.cells #[.string nm,.int .i64 (a:Int),.int .i64 (b:Int)] 52)).cell? ⟨w.heap.size,0,none⟩=some (.string nm):=World.cell?_alloc_at _ _ _ _ rfl
 have x1:(w.alloc (.cells #[.string nm,.int .i64 (a:Int),.int .i64 (b:Int)] 52)).cell? ⟨w.heap.size,1,none⟩=some (.int .i64 (a:Int)):=World.cell?_alloc_at _ _ _ _ rfl
 have x2:(w.alloc (.cells #[.string nm,.int .i64 (a:Int),.int .i64 (b:Int)] 52)).cell? ⟨w.heap.size,2,none⟩=some (.int .i64 (b:Int)):=World.cell?_alloc_at _ _ _ _ rfl
 have e6:(w.alloc (.cells #[.string nm,.int .i64 (a:Int),.int .i64 (b:Int)] 52)).cell? ⟨E.g,6,none⟩=some (.slice (some ⟨gb,0,none⟩) E.hs.length cb):=by rw [HB.out.cell (p:=⟨E.g,6,none⟩) hgs];exact c6
 have e7:(w.alloc (.cells #[.string nm,.int .i64 (a:Int),.int .i64 (b:Int)] 52)).cell? ⟨E.g,7,none⟩=some (.slice (some ⟨gz,0,none⟩) E.hs.length cz):=by rw [HB.out.cell (p:=⟨E.g,7,none⟩) hgs];exact c7
 have y0:(w.alloc (.cells #[.string nm,.int .i64 (a:Int),.int .i64 (b:Int)] 52)).cell? ⟨gb,h*3,none⟩=some (.string nm):=by rw [HB.out.cell (p:=⟨gb,h*3,none⟩) hgb];exact b0
 have y1:(w.alloc (.cells #[.string nm,.int .i64 (a:Int),.int .i64 (b:Int)] 52)).cell? ⟨gb,h*3+1,none⟩=some (.int .i64 0):=by rw [HB.out.cell (p:=⟨gb,h*3+1,none⟩) hgb];exact b1
 have y2:(w.alloc (.cells #[.string nm,.int .i64 (a:Int),.int .i64 (b:Int)] 52)).cell? ⟨gb,h*3+2,none⟩=some (.int .i64 0):=by rw [HB.out.cell (p:=⟨gb,h*3+2,none⟩) hgb];exact b2
 have y3:(w.alloc (.cells #[.string nm,.int .i64 (a:Int),.int .i64 (b:Int)] 52)).cell? ⟨gz,h,none⟩=some (.bool false):=by rw [HB.out.cell (p:=⟨gz,h,none⟩) hgz];exact z0
 have r0:(w.alloc (.cells #[.string nm,.int .i64 (a:Int),.int .i64 (b:Int)] 52)).frozen? ⟨gb,h*3,none⟩=false:=by rw [HB.out.frozen (p:=⟨gb,h*3,none⟩) hgb];exact bz _
 have r1:(w.alloc (.cells #[.string nm,.int .i64 (a:Int),.int .i64 (b:Int)] 52)).frozen? ⟨gb,h*3+1,none⟩=false:=by rw [HB.out.frozen (p:=⟨gb,h*3+1,none⟩) hgb];exact bz _
 have r2:(w.alloc (.cells #[.string nm,.int .i64 (a:Int),.int .i64 (b:Int)] 52)).frozen? ⟨gb,h*3+2,none⟩=false:=by rw [HB.out.frozen (p:=⟨gb,h*3+2,none⟩) hgb];exact bz _
 have r3:(w.alloc (.cells #[.string nm,.int .i64 (a:Int),.int .i64 (b:Int)] 52)).frozen? ⟨gz,h,none⟩=false:=by rw [HB.out.frozen (p:=⟨gz,h,none⟩) hgz];exact zz _
 have HZ:RowKit.Hid (w.heap.size<(w.alloc (.cells #[.string nm,.int .i64 (a:Int),.int .i64 (b:Int)] 52)).heap.size):=Hd (by simp)
 have HBd:=Hd HB.out.drew
 have HKd:RowKit.Hid (KeptX E w (w.alloc (.cells #[.string nm,.int .i64 (a:Int),.int .i64 (b:Int)] 52))):=Hd (KeptX.of_below HB.out)
 have HNE:RowKit.Hid (∀ B,w.heap.size≤B→some B≠E.vb.ownBlock∧some B≠E.vz.ownBlock):=Hd fun B hB=>by
  rw [← HBO.out,← HZO.out]
  simp only [ne_eq,Option.some.injEq]
  exact ⟨by omega,by omega⟩
 have HNG:=Hd ok.nb
 have HVB:=Hd hvb
 have HVZ:=Hd hvz
 have HI0:=Hd (HI.out.below HB.out)
 have HHH:=Hd hh
 have HQN:=Hd hq
 have HLN:=Hd HI.out.n
 have hgz2:gb≠gz:=by
  rcases ok.ne with e | e
  ·rw [← HBO.out] at e;cases e
  ·intro e2;apply e;rw [← HBO.out,← HZO.out,e2]
 have hgz3:gz≠gb:=fun e=>hgz2 e.symm
 generalize w.alloc (.cells #[.string nm,.int .i64 (a:Int),.int .i64 (b:Int)] 52)=W0 at *
 generalize hss:w.heap.size=B at *
 have HSS:=Hd hss
 have HGS:=Hd hgs
 clear hss c6 c7 b0 b1 b2 z0 hvb hvz HB bz zz
 have HS:RowKit.Hid (∀ W,KeptX E W0 W→(fun W=>W.cell? ⟨E.g,6,none⟩=some (.slice (some ⟨gb,0,none⟩) E.hs.length cb)∧W.cell? ⟨E.g,7,none⟩=some (.slice (some ⟨gz,0,none⟩) E.hs.length cz)∧W.cell? ⟨B,0,none⟩=some (.string nm)∧W.cell? ⟨B,1,none⟩=some (.int .i64 (a:Int))∧W.cell? ⟨B,2,none⟩=some (.int .i64 (b:Int))∧RowKit.Hid (KeptX E w W)) W):=Hd fun W hk=>by
  have hz:B<W0.heap.size:=HZ.out
  have hg:E.g<W0.heap.size:=by have:=HGS.out;omega
  have hne:=HNE.out B (Nat.le_refl _)
  have hng:=HNG.out
  refine ⟨?_,?_,?_,?_,?_,Hd (HKd.out.trans hk)⟩
  ·rw [hk.cell hg hng.1 hng.2];exact e6
  ·rw [hk.cell hg hng.1 hng.2];exact e7
  ·rw [hk.cell hz hne.1 hne.2];exact x0
  ·rw [hk.cell hz hne.1 hne.2];exact x1
  ·rw [hk.cell hz hne.1 hne.2];exact x2
 have HSB:RowKit.Hid (∀ W j v,KeptX E W0 W→KeptX E W0 (W.setCell ⟨gb,j,none⟩ v)):=Hd fun W j v hk=>hk.set (Or.inl HBO.out) v
 have HSZ:RowKit.Hid (∀ W j v,KeptX E W0 W→KeptX E W0 (W.setCell ⟨gz,j,none⟩ v)):=Hd fun W j v hk=>hk.set (Or.inr HZO.out) v
 have HSD:RowKit.Hid (∀ W,KeptX E W0 W→KeptX E W0 W.drew):=Hd fun W hk=>hk.trans (KeptX.drew E W)
 go_region_held3 (fun W=>W.cell? ⟨E.g,6,none⟩=some (.slice (some ⟨gb,0,none⟩) E.hs.length cb)∧W.cell? ⟨E.g,7,none⟩=some (.slice (some ⟨gz,0,none⟩) E.hs.length cz)∧W.cell? ⟨B,0,none⟩=some (.string nm)∧W.cell? ⟨B,1,none⟩=some (.int .i64 (a:Int))∧W.cell? ⟨B,2,none⟩=some (.int .i64 (b:Int))∧RowKit.Hid (KeptX E w W)) ((refine HS.out _ ?_;repeat (first | exact KeptX.refl _ _ | refine HSD.out _ ?_ | refine HSB.out _ _ _ ?_ | refine HSZ.out _ _ _ ?_))) (fail)
 all_goals
  clear y0 y1 y2 y3 r0 r1 r2 r3 e6 e7 x0 x1 x2
  go_wp2_with fail
  refine (HT.out _ (σ.set h (some (a,b))) (by refine HKd.out.trans ?_;repeat (first | exact KeptX.refl _ _ | refine HSD.out _ ?_ | refine HSB.out _ _ _ ?_ | refine HSZ.out _ _ _ ?_)) (by first | exact (HST1.out W0 HI0.out).1.below (Below.refl _ _).drew | exact (HST1.out W0 HI0.out).2.below (Below.refl _ _).drew)).mono ?_
  intro e w6 h6
  obtain ⟨y,rfl⟩:=h6.bool
  have hkw:KeptX E W0 w6:=KeptX.trans (by repeat (first | exact KeptX.refl _ _ | refine HSD.out _ ?_ | refine HSB.out _ _ _ ?_ | refine HSZ.out _ _ _ ?_)) h6.out.1
  have HKW:=Hd hkw
  clear hkw
  have HO6:=Hd h6.out.2
  clear h6
  cases y with
  | true =>
   have hx:Q (.returned (.bool true)) w6:=by
    rcases HO6.out with ⟨τ,k1,_,k3⟩ | ⟨_,k2,_⟩
    ·exact HQ.out _ _ (seekPost.yes k1 (HKd.out.trans HKW.out) k3)
    ·cases k2
   have HX:=Hd hx
   clear hx HO6
   go_wp2_with fail
   exact HX.out
  | false =>
   have hfin:K (σ.set h (some (a,b)))=none∧SkIn E (σ.set h (some (a,b))) w6:=by
    rcases HO6.out with ⟨τ,_,k2,_⟩ | ⟨k1,_,k3⟩
    ·cases k2
    ·exact ⟨k1,k3⟩
   have HF:=Hd hfin
   obtain ⟨c6,c7,c0,_⟩:=HS.out w6 HKW.out
   have hset:(σ.set h (some (a,b)))[h]?=some (some (a,b)):=List.getElem?_set_self (by have:=HLN.out;have:=HHH.out;omega)
   obtain ⟨gb',cb',hvb',_,_,hgb6,b0,b1,b2,bz⟩:=hfin.2.bindAt HHH.out hset
   obtain ⟨gz',cz',hvz',_,_,hgz6,z0,zz⟩:=hfin.2.boundAt HHH.out hset
   rw [HVB.out] at hvb'
   rw [HVZ.out] at hvz'
   simp only [Value.slice.injEq,Option.some.injEq,Addr.mk.injEq,and_true,true_and] at hvb' hvz'
   obtain ⟨rfl,rfl⟩:=hvb'
   obtain ⟨rfl,rfl⟩:=hvz'
   have r0:=bz (h*3)
   have r1:=bz (h*3+1)
   have r2:=bz (h*3+2)
   have r3:=zz h
   have HSN:RowKit.Hid (∀ W,KeptX E w6 W→(fun W=>W.cell? ⟨E.g,6,none⟩=some (.slice (some ⟨gb,0,none⟩) E.hs.length cb)∧W.cell? ⟨E.g,7,none⟩=some (.slice (some ⟨gz,0,none⟩) E.hs.length cz)∧W.cell? ⟨B,0,none⟩=some (.string nm)∧RowKit.Hid (KeptX E w W)) W):=Hd fun W hk=>by
    obtain ⟨t1,t2,t3,_⟩:=HS.out W (HKW.out.trans hk)
    exact ⟨t1,t2,t3,Hd (HKd.out.trans (HKW.out.trans hk))⟩
   have HTB:RowKit.Hid (∀ W j v,KeptX E w6 W→KeptX E w6 (W.setCell ⟨gb,j,none⟩ v)):=Hd fun W j v hk=>hk.set (Or.inl HBO.out) v
   have HTZ:RowKit.Hid (∀ W j v,KeptX E w6 W→KeptX E w6 (W.setCell ⟨gz,j,none⟩ v)):=Hd fun W j v hk=>hk.set (Or.inr HZO.out) v
   have HTD:RowKit.Hid (∀ W,KeptX E w6 W→KeptX E w6 W.drew):=Hd fun W hk=>hk.trans (KeptX.drew E W)
   clear bz zz hset hfin HO6
   go_wp2_with fail
   go_region_held3 (fun W=>W.cell? ⟨E.g,6,none⟩=some (.slice (some ⟨gb,0,none⟩) E.hs.length cb)∧W.cell? ⟨E.g,7,none⟩=some (.slice (some ⟨gz,0,none⟩) E.hs.length cz)∧W.cell? ⟨B,0,none⟩=some (.string nm)∧RowKit.Hid (KeptX E w W)) ((refine HSN.out _ ?_;repeat (first | exact KeptX.refl _ _ | refine HTD.out _ ?_ | refine HTB.out _ _ _ ?_ | refine HTZ.out _ _ _ ?_))) (fail)
   all_goals
    have HX:RowKit.Hid (∀ W,KeptX E w6 W→SkIn E σ W→Q (.returned (.bool false)) W):=Hd fun W hk hw=>HQ.out _ _ (seekPost.no HF.out.1 (HKd.out.trans (HKW.out.trans hk)) hw)
    go_wp2_with fail
    refine HX.out _ (by repeat (first | exact KeptX.refl _ _ | refine HTD.out _ ?_ | refine HTB.out _ _ _ ?_ | refine HTZ.out _ _ _ ?_)) ?_
    first
     | exact (HST2.out w6 HF.out.2).1.below (Below.refl _ _).drew
     | exact (HST2.out w6 HF.out.2).2.below (Below.refl _ _).drew
end Go.Proofs.YtfalelkfhandfaaGreatDoor
namespace Go.Proofs.YtfalelkfhandfaaGreatDoor
set_option linter.all false
attribute [local irreducible] Calls
open Go.RowKit

theorem zOn (E:SkE) (ok:SkOK E) (w:World) (σ:MSt) (hi:SkIn E σ w) (h:Nat) (hh:h<E.hs.length) (a b:Nat) (h1:a≤b) (h2:b≤E.l.length) (K:MSt→Option MSt) (tv:Value) (ht:ThenOK E K tv w) :
  Calls Tryz.prog 118 #[.pointer (some ⟨E.g,0,none⟩),.int .i64 (h:Int),.int .i64 (a:Int),.int .i64 (b:Int),tv] w (seekPost E ((bindS E.l σ h a b).bind K) σ w):=by
 have hl:h<σ.length:=by rw [hi.n];exact hh
 cases ho:σ[h] with
 | some q=>exact zLh E ok w σ hi h hh a b h1 h2 K tv ht q (by rw [List.getElem?_eq_getElem hl,ho])
 | none=>exact zLi E ok w σ hi h hh a b h1 h2 K tv ht (by rw [List.getElem?_eq_getElem hl,ho])
theorem zLj {w:World} {v:Value} {k:IntKind} {xs:List Int} (h:zK w v k xs) (hp:0<xs.length):∃ b off cap,v=.slice (some ⟨b,off,none⟩) xs.length cap∧xs.length≤cap∧∀ i (hi:i<xs.length),w.cell? ⟨b,off+i,none⟩=some (.int k xs[i]):=by
 obtain ⟨a,cap,hv,hc,hrow⟩:=h.open'
 obtain ⟨b,off,rfl,_,hcell⟩:=hrow hp
 exact ⟨b,off,cap,hv,hc,hcell⟩
theorem SkStat.ends {E:SkE} {w:World} (h:SkStat E w) {L:List Prt} {v:Value} (hv:∀ w',KeptX E w w'→zK w' v .i64 (endsL L)) (hp:0<L.length):∃ b off cap,v=.slice (some ⟨b,off,none⟩) L.length cap∧L.length≤cap∧∀ w',KeptX E w w'→∀ i,i<L.length→w'.cell? ⟨b,off+i,none⟩=some (.int .i64 (zA L i:Int)):=by
 have hl:=zN L
 obtain ⟨b,off,cap,e,hc,_⟩:=zLj (hv w (KeptX.refl _ _)) (by omega)
 rw [hl] at e hc
 refine ⟨b,off,cap,e,hc,fun w' hk i hi=>?_⟩
 obtain ⟨b',off',cap',e',_,hcell⟩:=zLj (hv w' hk) (by omega)
 rw [e,hl] at e'
 simp only [Value.slice.injEq,Option.some.injEq,Addr.mk.injEq,and_true,true_and] at e'
 obtain ⟨⟨rfl,rfl⟩,rfl⟩:=e'
 rw [hcell i (by omega)]
 have:=xJ hi
 rw [List.getElem?_eq_getElem (by omega)] at this
 rw [Option.some.inj this]
theorem SkStat.parts {E:SkE} {w:World} (h:SkStat E w) {L:List Prt} {v:Value} (hv:∀ w',KeptX E w w'→zG w' v L) (hp:0<L.length):∃ b off cap,v=.slice (some ⟨b,off,none⟩) L.length cap∧L.length≤cap∧∀ w',KeptX E w w'→∀ i (hi:i<L.length),w'.cell? ⟨b,off+i*3,none⟩=some (.int .u8 (L[i].1:Int))∧w'.cell? ⟨b,off+i*3+2,none⟩=some (.string L[i].2.2):=by
 obtain ⟨a,cap,e,hc⟩:=(hv w (KeptX.refl _ _)).slice
 have h1:=hv w (KeptX.refl _ _)
 rw [e] at h1
 obtain ⟨b,off,rfl,_,_,_,_⟩:=h1.at (Below.refl _ _) hp
 refine ⟨b,off,cap,e,hc,fun w' hk i hi=>?_⟩
 have h2:=hv w' hk
 rw [e] at h2
 obtain ⟨b',off',e',_,_,_,hcell⟩:=h2.at (Below.refl _ _) hp
 simp only [Option.some.injEq,Addr.mk.injEq,and_true] at e'
 obtain ⟨rfl,rfl⟩:=e'
 exact ⟨(hcell i hi).1,(hcell i hi).2.2⟩
def PartC (E:SkE) (n:Nat):Prop:=∀ (w:World) (σ:MSt) (p i:Nat) (K:MSt→Option MSt) (tv:Value),SkIn E σ w→p<E.f.length→i<E.l.length→2*(zA E.f p-p)≤n→ThenOK E K tv w →
 Calls Tryz.prog 97 #[.pointer (some ⟨E.g,0,none⟩),.int .i64 (p:Int),.int .i64 (i:Int),tv] w (seekPost E (sPart E.f E.l E.hs n p i K σ) σ w)
def KidsC (E:SkE) (n:Nat):Prop:=∀ (w:World) (σ:MSt) (p pend i iend:Nat) (K:MSt→Option MSt) (tv:Value) (J M:Nat),SkIn E σ w→pend≤E.f.length→advT E.f J p pend=some pend→iend≤E.l.length→advT E.l M i iend=some iend→2*(pend-p)+1≤n→ThenOK E K tv w →
 Calls Tryz.prog 119 #[.pointer (some ⟨E.g,0,none⟩),.int .i64 (p:Int),.int .i64 (pend:Int),.int .i64 (i:Int),.int .i64 (iend:Int),tv] w (seekPost E (sKids E.f E.l E.hs n p pend i iend K σ) σ w)
end Go.Proofs.YtfalelkfhandfaaGreatDoor
namespace Go.Proofs.YtfalelkfhandfaaGreatDoor
set_option linter.all false
attribute [local irreducible] Calls
open Go.RowKit

structure SkRead (E:SkE) (w:World) (h p i:Nat) (kb ko kc lb lo lc eb eo ec:Nat):Prop where
 k:∀ W,KeptX E w W→W.cell? ⟨E.g,5,none⟩=some (.slice (some ⟨kb,ko,none⟩) E.hs.length kc)∧W.cell? ⟨kb,ko+h,none⟩=some (.int .u8 (hkind E.hs h:Int))
 l:∀ W,KeptX E w W→W.cell? ⟨E.g,1,none⟩=some (.slice (some ⟨lb,lo,none⟩) E.l.length lc)∧W.cell? ⟨lb,lo+i*3,none⟩=some (.int .u8 (zX E.l i:Int))
 e:∀ W,KeptX E w W→W.cell? ⟨E.g,3,none⟩=some (.slice (some ⟨eb,eo,none⟩) E.l.length ec)∧W.cell? ⟨eb,eo+i,none⟩=some (.int .i64 (zA E.l i:Int))
 kc:E.hs.length≤kc
 lc:E.l.length≤lc
 ec:E.l.length≤ec
theorem SkStat.read {E:SkE} {w:World} (hs:SkStat E w) {h p i:Nat} (hh:h<E.hs.length) (hi:i<E.l.length):∃ kb ko kc lb lo lc eb eo ec,SkRead E w h p i kb ko kc lb lo lc eb eo ec:=by
 obtain ⟨kb,ko,kc,hk,hkc,_⟩:=hs.now.kind hh
 obtain ⟨lb,lo,lc,hl,hlc,hlp⟩:=hs.parts (L:=E.l) (v:=E.vl) (fun w' hk=>(hs w' hk).l) (by omega)
 obtain ⟨eb,eo,ec,he,hec,hep⟩:=hs.ends (L:=E.l) (v:=E.ve) (fun w' hk=>(hs w' hk).e) (by omega)
 refine ⟨kb,ko,kc,lb,lo,lc,eb,eo,ec,fun W hW=>?_,fun W hW=>?_,fun W hW=>?_,hkc,hlc,hec⟩
 ·have hc:=(hs W hW).cells
  obtain ⟨kb',ko',kc',hk',_,hcell⟩:=(hs W hW).kind hh
  rw [hk] at hk'
  simp only [Value.slice.injEq,Option.some.injEq,Addr.mk.injEq,and_true,true_and] at hk'
  obtain ⟨⟨rfl,rfl⟩,rfl⟩:=hk'
  exact ⟨by rw [hc.2.2.2.2.2.1,hk],hcell⟩
 ·have hc:=(hs W hW).cells
  refine ⟨by rw [hc.2.1,hl],?_⟩
  rw [(hlp W hW i hi).1]
  unfold zX
  rw [List.getElem?_eq_getElem hi]
 ·have hc:=(hs W hW).cells
  exact ⟨by rw [hc.2.2.2.1,he],hep W hW i hi⟩
set_option maxRecDepth 100000 in
set_option maxHeartbeats 16000000 in
theorem zLk (E:SkE) (ok:SkOK E) (h7:∀ x∈E.hs,1≤x.2∧x.2≤7) (n:Nat) (w:World) (σ:MSt) (p i:Nat) (K:MSt→Option MSt) (tv:Value) (hi:SkIn E σ w) (hp:p<E.f.length) (hil:i<E.l.length) (ht:ThenOK E K tv w) (h:Nat) (ho:oneOf E.f E.hs p=some h) :
  Calls Tryz.prog 97 #[.pointer (some ⟨E.g,0,none⟩),.int .i64 (p:Int),.int .i64 (i:Int),tv] w (seekPost E (sPart E.f E.l E.hs (n+1) p i K σ) σ w):=by
 have hsp:sPart E.f E.l E.hs (n+1) p i K σ=if mayB (hkind E.hs h) (zX E.l i) then (bindS E.l σ h i (zA E.l i)).bind K else none:=by rw [sPart,ho]
 rw [hsp]
 obtain ⟨Q,hQ⟩:∃ Q,seekPost E (if mayB (hkind E.hs h) (zX E.l i) then (bindS E.l σ h i (zA E.l i)).bind K else none) σ w=Q:=⟨_,rfl⟩
 have HQ:RowKit.Hid (∀ e w',seekPost E (if mayB (hkind E.hs h) (zX E.l i) then (bindS E.l σ h i (zA E.l i)).bind K else none) σ w e w'→Q e w'):=Hd fun e w' h=>by rw [← hQ];exact h
 rw [hQ]
 clear hQ hsp
 obtain ⟨hsev,hho,_⟩:=zBr E.f E.hs ho
 have hh:=zDf E.f E.hs hho
 have C1:=zDi E ok w hi.st.now p hp
 rw [hho] at C1
 have C1:=Hd C1
 have hk5:1≤hkind E.hs h∧hkind E.hs h≤5:=by
  have:=h7 _ (List.getElem_mem hh)
  have e:hkind E.hs h=(E.hs[h]).2:=by unfold hkind;rw [List.getElem?_eq_getElem hh]
  rw [e] at hsev ⊢
  unfold isSev at hsev
  simp at hsev
  omega
 have hkl:zX E.l i<256:=by
  have:=(ok.lk.2 _ (List.getElem_mem hil)).1
  unfold zX;rw [List.getElem?_eq_getElem hil];exact this
 have hg:=zJ (zI ok.hl) hil
 have CM:=Hd (fun W=>zQu _ _ hk5.1 hk5.2 hkl W)
 have CB:=Hd (fun W (hk:KeptX E w W) (hs:SkIn E σ W)=>zOn E ok W σ hs h hh i (zA E.l i) (by omega) hg.2 K tv (ht.keep hk))
 obtain ⟨kb,ko,kc,lb,lo,lc,eb,eo,ec,R⟩:=hi.st.read (p:=p) hh hil
 have HR:=Hd R
 have HS:RowKit.Hid (∀ W,KeptX E w W→(fun W=>W.cell? ⟨E.g,5,none⟩=some (.slice (some ⟨kb,ko,none⟩) E.hs.length kc)∧W.cell? ⟨kb,ko+h,none⟩=some (.int .u8 (hkind E.hs h:Int))∧W.cell? ⟨E.g,1,none⟩=some (.slice (some ⟨lb,lo,none⟩) E.l.length lc)∧W.cell? ⟨lb,lo+i*3,none⟩=some (.int .u8 (zX E.l i:Int))∧W.cell? ⟨E.g,3,none⟩=some (.slice (some ⟨eb,eo,none⟩) E.l.length ec)∧W.cell? ⟨eb,eo+i,none⟩=some (.int .i64 (zA E.l i:Int))∧RowKit.Hid (KeptX E w W)) W):=Hd fun W hk=>⟨(R.k W hk).1,(R.k W hk).2,(R.l W hk).1,(R.l W hk).2,(R.e W hk).1,(R.e W hk).2,Hd hk⟩
 have HI:=Hd hi
 have C2:=Hd (fun W (hk:KeptX E w W)=>gV E W ((hi.st.keep hk).now) ok.hn h hh)
 have hh0:(0:Int)≤(h:Int):=by omega
 have hhl:(h:Int)<E.hs.length:=by omega
 have hi0:(0:Int)≤(i:Int):=by omega
 have hill:(i:Int)<E.l.length:=by omega
 have hhn:=ok.hn
 have hll:=ok.ll
 have hkc:=R.kc
 have hlc:=R.lc
 have hec:=R.ec
 rw [hsev] at C2
 clear HR hi ht R hk5 hkl hg ho hho hsev
 generalize hkind E.hs h=x at *
 generalize zX E.l i=y at *
 generalize zA E.l i=z at *
 go_enter Tryz.func97,Tryz.ntmps97
 go_wp2_with fail
 refine C1.out.mono ?_
 intro e w1 h1
 unfold holePost at h1
 obtain ⟨rfl,m,rfl⟩:=h1
 unfold holeZ
 go_wp2_with fail
 refine (C2.out _ (KeptX.drewN E w m)).mono ?_
 rintro e w2 ⟨rfl,rfl⟩
 have HKD:RowKit.Hid (KeptX E w (w.drewN (m+1))):=Hd (KeptX.drewN E w (m+1))
 have HID:RowKit.Hid (SkIn E σ (w.drewN (m+1))):=Hd (HI.out.drewN (m+1))
 have HSA:=Hd (HS.out _ HKD.out)
 go_wp2_with fail
 cases hm:mayB x y with
 | true =>
  rw [hm] at HQ CM
  rw [if_pos rfl] at HQ
  clear hm
  go_region_held3 (fun W=>W.cell? ⟨E.g,5,none⟩=some (.slice (some ⟨kb,ko,none⟩) E.hs.length kc)∧W.cell? ⟨kb,ko+h,none⟩=some (.int .u8 (x:Int))∧W.cell? ⟨E.g,1,none⟩=some (.slice (some ⟨lb,lo,none⟩) E.l.length lc)∧W.cell? ⟨lb,lo+i*3,none⟩=some (.int .u8 (y:Int))∧W.cell? ⟨E.g,3,none⟩=some (.slice (some ⟨eb,eo,none⟩) E.l.length ec)∧W.cell? ⟨eb,eo+i,none⟩=some (.int .i64 (z:Int))∧RowKit.Hid (KeptX E w W)) (first | exact HSA.out | exact HS.out _ (HKD.out.trans hk6)) (first | ((go_at_call 117;(with_reducible refine (CM.out _).mono ?_);(rintro e w4 ⟨rfl,rfl⟩);(try dsimp only))) | ((go_at_call 118;(with_reducible refine (CB.out _ HKD.out HID.out).mono ?_);(intro e w6 h6;obtain ⟨v,rfl⟩:=h6.bool;have hk6:=h6.out.1);(try dsimp only))))
  all_goals
   have HX:=Hd (HQ.out _ _ (h6.from HKD.out))
   clear h6
   go_wp2_with fail
   exact HX.out
 | false =>
  rw [hm] at HQ CM
  rw [if_neg (by simp)] at HQ
  clear hm
  refine wp_region_noPanic ?_
  refine wp_region_held_drew (S:=fun W=>W.cell? ⟨E.g,5,none⟩=some (.slice (some ⟨kb,ko,none⟩) E.hs.length kc)∧W.cell? ⟨kb,ko+h,none⟩=some (.int .u8 (x:Int))∧W.cell? ⟨E.g,1,none⟩=some (.slice (some ⟨lb,lo,none⟩) E.l.length lc)∧W.cell? ⟨lb,lo+i*3,none⟩=some (.int .u8 (y:Int))∧W.cell? ⟨E.g,3,none⟩=some (.slice (some ⟨eb,eo,none⟩) E.l.length ec)∧W.cell? ⟨eb,eo+i,none⟩=some (.int .i64 (z:Int))∧RowKit.Hid (KeptX E w W)) (by kernel_rfl) HSA.out (fun hHeldA=>?_)
  refine wpAnyH_take (i:=0) (oi:=_) (v:=?vA0) rfl (by kernel_rfl) (by kernel_rfl) (by kernel_rfl) (fun _ _ _ h=>h) (Or.inl ⟨by kernel_rfl,?hyA0⟩) hHeldA ?restA0
  case hyA0=>intro w hSw;(try dsimp only at hSw);go_simp;(try with_reducible rfl)
  (try simp only [Act.put,List.setIfInBounds_toArray,List.set_cons_zero,List.set_cons_succ])
  refine wpAnyH_take (i:=1) (oi:=_) (v:=?vA1) rfl (by kernel_rfl) (by kernel_rfl) (by kernel_rfl) (fun _ _ _ h=>h) (Or.inl ⟨by kernel_rfl,?hyA1⟩) hHeldA ?restA1
  case hyA1=>intro w hSw;(try dsimp only at hSw);go_simp;(try with_reducible rfl)
  (try simp only [Act.put,List.setIfInBounds_toArray,List.set_cons_zero,List.set_cons_succ])
  refine wpAnyH_take (i:=2) (oi:=_) (v:=?vA2) rfl (by kernel_rfl) (by kernel_rfl) (by kernel_rfl) (fun _ _ _ h=>h) (Or.inl ⟨by kernel_rfl,?hyA2⟩) hHeldA ?restA2
  case hyA2=>intro w hSw;(try dsimp only at hSw);go_simp;(try with_reducible rfl)
  (try simp only [Act.put,List.setIfInBounds_toArray,List.set_cons_zero,List.set_cons_succ])
  refine wpAnyH_take (i:=3) (oi:=_) (v:=?vA3) rfl (by kernel_rfl) (by kernel_rfl) (by kernel_rfl) (fun _ _ _ h=>h) (Or.inl ⟨by kernel_rfl,?hyA3⟩) hHeldA ?restA3
  case hyA3=>intro w hSw;(try dsimp only at hSw);go_simp;(try with_reducible rfl)
  (try simp only [Act.put,List.setIfInBounds_toArray,List.set_cons_zero,List.set_cons_succ])
  refine wpAnyH_take (i:=4) (oi:=_) (v:=?vA4) rfl (by kernel_rfl) (by kernel_rfl) (by kernel_rfl) (fun _ _ _ h=>h) (Or.inl ⟨by kernel_rfl,?hyA4⟩) hHeldA ?restA4
  case hyA4=>intro w hSw;(try dsimp only at hSw);go_simp;(try with_reducible rfl)
  (try simp only [Act.put,List.setIfInBounds_toArray,List.set_cons_zero,List.set_cons_succ])
  refine wpAnyH_take (i:=5) (oi:=_) (v:=?vA5) rfl (by kernel_rfl) (by kernel_rfl) (by kernel_rfl) (fun _ _ _ h=>h) (Or.inl ⟨by kernel_rfl,?hyA5⟩) hHeldA ?restA5
  case hyA5=>intro w hSw;(try dsimp only at hSw);go_simp;(try with_reducible rfl)
  (try simp only [Act.put,List.setIfInBounds_toArray,List.set_cons_zero,List.set_cons_succ])
  refine wpAnyH_take (i:=6) (oi:=_) (v:=?vA6) rfl (by kernel_rfl) (by kernel_rfl) (by kernel_rfl) (fun _ _ _ h=>h) (Or.inl ⟨by kernel_rfl,?hyA6⟩) hHeldA ?restA6
  case hyA6=>intro w hSw;(try dsimp only at hSw);go_simp;(try with_reducible rfl)
  (try simp only [Act.put,List.setIfInBounds_toArray,List.set_cons_zero,List.set_cons_succ])
  refine wpAnyH_take (i:=7) (oi:=_) (v:=?vA7) rfl (by kernel_rfl) (by kernel_rfl) (by kernel_rfl) (fun _ _ _ h=>h) (Or.inl ⟨by kernel_rfl,?hyA7⟩) hHeldA ?restA7
  case hyA7=>intro w hSw;(try dsimp only at hSw);go_simp;(try with_reducible rfl)
  (try simp only [Act.put,List.setIfInBounds_toArray,List.set_cons_zero,List.set_cons_succ])
  refine wpAnyH_take (i:=8) (oi:=_) (v:=?vA8) rfl (by kernel_rfl) (by kernel_rfl) (by kernel_rfl) (fun _ _ _ h=>h) (Or.inl ⟨by kernel_rfl,?hyA8⟩) hHeldA ?restA8
  case hyA8=>intro w hSw;(try dsimp only at hSw);go_simp;(try with_reducible rfl)
  (try simp only [Act.put,List.setIfInBounds_toArray,List.set_cons_zero,List.set_cons_succ])
  refine wpAnyH_take (i:=9) (oi:=_) (v:=?vA9) rfl (by kernel_rfl) (by kernel_rfl) (by kernel_rfl) (fun _ _ _ h=>h) (Or.inl ⟨by kernel_rfl,?hyA9⟩) hHeldA ?restA9
  case hyA9=>intro w hSw;(try dsimp only at hSw);go_simp;(try with_reducible rfl)
  (try simp only [Act.put,List.setIfInBounds_toArray,List.set_cons_zero,List.set_cons_succ])
  refine wpAnyH_take (i:=10) (oi:=_) (v:=?vA10) rfl (by kernel_rfl) (by kernel_rfl) (by kernel_rfl) (fun _ _ _ h=>h) (Or.inl ⟨by kernel_rfl,?hyA10⟩) hHeldA ?restA10
  case hyA10=>intro w hSw;(try dsimp only at hSw);go_simp;(try with_reducible rfl)
  (try simp only [Act.put,List.setIfInBounds_toArray,List.set_cons_zero,List.set_cons_succ])
  refine wpAnyH_take (i:=11) (oi:=_) (v:=?vA11) rfl (by kernel_rfl) (by kernel_rfl) (by kernel_rfl) (fun _ _ _ h=>h) (Or.inl ⟨by kernel_rfl,?hyA11⟩) hHeldA ?restA11
  case hyA11=>intro w hSw;(try dsimp only at hSw);go_simp;(try with_reducible rfl)
  (try simp only [Act.put,List.setIfInBounds_toArray,List.set_cons_zero,List.set_cons_succ])
  refine wpAnyH_take (i:=12) (oi:=_) (v:=?vA12) rfl (by kernel_rfl) (by kernel_rfl) (by kernel_rfl) (fun _ _ _ h=>h) (Or.inl ⟨by kernel_rfl,?hyA12⟩) hHeldA ?restA12
  case hyA12=>intro w hSw;(try dsimp only at hSw);go_simp;(try with_reducible rfl)
  (try simp only [Act.put,List.setIfInBounds_toArray,List.set_cons_zero,List.set_cons_succ])
  refine wpAnyH_take (i:=13) (oi:=_) (v:=?vA13) rfl (by kernel_rfl) (by kernel_rfl) (by kernel_rfl) (fun _ _ _ h=>h) (Or.inl ⟨by kernel_rfl,?hyA13⟩) hHeldA ?restA13
  case hyA13=>intro w hSw;(try dsimp only at hSw);go_simp;(try with_reducible rfl)
  (try simp only [Act.put,List.setIfInBounds_toArray,List.set_cons_zero,List.set_cons_succ])
  refine wpAnyH_take (i:=14) (oi:=_) (v:=?vA14) rfl (by kernel_rfl) (by kernel_rfl) (by kernel_rfl) (fun _ _ _ h=>h) (Or.inl ⟨by kernel_rfl,?hyA14⟩) hHeldA ?restA14
  case hyA14=>intro w hSw;(try dsimp only at hSw);go_simp;(try with_reducible rfl)
  (try simp only [Act.put,List.setIfInBounds_toArray,List.set_cons_zero,List.set_cons_succ])
  refine wpAnyH_ready (rs:=[15]) (by kernel_rfl) (by simp) ?_
  refine AllReadyH.cons (o:=_) rfl (fun K hK=>?_) AllReadyH.nil
  go_simp
  go_at_call 117
  refine (CM.out _).mono ?_
  rintro e w4 ⟨rfl,rfl⟩
  (try dsimp only)
  refine hK.out _ _ hHeldA (fun hHeldA_1=>?_)
  clear hK K hHeldA
  (try simp only [Act.put,List.setIfInBounds_toArray,List.set_cons_zero,List.set_cons_succ])
  refine wpAnyH_take (i:=16) (oi:=_) (v:=?vA16) rfl (by kernel_rfl) (by kernel_rfl) (by kernel_rfl) (fun _ _ _ h=>h) (Or.inl ⟨by kernel_rfl,?hyA16⟩) hHeldA_1 ?restA16
  case hyA16=>intro w hSw;(try dsimp only at hSw);go_simp;(try with_reducible rfl)
  (try simp only [Act.put,List.setIfInBounds_toArray,List.set_cons_zero,List.set_cons_succ])
  refine wpAnyH_take (i:=17) (oi:=_) (v:=undef) rfl (by kernel_rfl) (by kernel_rfl) (by kernel_rfl) (fun _ _ _ h=>h) (Or.inr ⟨by kernel_rfl,rfl⟩) hHeldA_1 ?_
  (try simp only [Act.put,List.setIfInBounds_toArray,List.set_cons_zero,List.set_cons_succ])
  refine wpAnyH_take (i:=18) (oi:=_) (v:=undef) rfl (by kernel_rfl) (by kernel_rfl) (by kernel_rfl) (fun _ _ _ h=>h) (Or.inr ⟨by kernel_rfl,rfl⟩) hHeldA_1 ?_
  (try simp only [Act.put,List.setIfInBounds_toArray,List.set_cons_zero,List.set_cons_succ])
  refine wpAnyH_take (i:=19) (oi:=_) (v:=undef) rfl (by kernel_rfl) (by kernel_rfl) (by kernel_rfl) (fun _ _ _ h=>h) (Or.inr ⟨by kernel_rfl,rfl⟩) hHeldA_1 ?_
  (try simp only [Act.put,List.setIfInBounds_toArray,List.set_cons_zero,List.set_cons_succ])
  refine wpAnyH_take (i:=20) (oi:=_) (v:=undef) rfl (by kernel_rfl) (by kernel_rfl) (by kernel_rfl) (fun _ _ _ h=>h) (Or.inr ⟨by kernel_rfl,rfl⟩) hHeldA_1 ?_
  (try simp only [Act.put,List.setIfInBounds_toArray,List.set_cons_zero,List.set_cons_succ])
  refine wpAnyH_take (i:=21) (oi:=_) (v:=undef) rfl (by kernel_rfl) (by kernel_rfl) (by kernel_rfl) (fun _ _ _ h=>h) (Or.inr ⟨by kernel_rfl,rfl⟩) hHeldA_1 ?_
  (try simp only [Act.put,List.setIfInBounds_toArray,List.set_cons_zero,List.set_cons_succ])
  refine wpAnyH_take (i:=22) (oi:=_) (v:=undef) rfl (by kernel_rfl) (by kernel_rfl) (by kernel_rfl) (fun _ _ _ h=>h) (Or.inr ⟨by kernel_rfl,rfl⟩) hHeldA_1 ?_
  (try simp only [Act.put,List.setIfInBounds_toArray,List.set_cons_zero,List.set_cons_succ])
  refine wpAnyH_take (i:=23) (oi:=_) (v:=undef) rfl (by kernel_rfl) (by kernel_rfl) (by kernel_rfl) (fun _ _ _ h=>h) (Or.inr ⟨by kernel_rfl,rfl⟩) hHeldA_1 ?_
  (try simp only [Act.put,List.setIfInBounds_toArray,List.set_cons_zero,List.set_cons_succ])
  refine wpAnyH_take (i:=24) (oi:=_) (v:=undef) rfl (by kernel_rfl) (by kernel_rfl) (by kernel_rfl) (fun _ _ _ h=>h) (Or.inr ⟨by kernel_rfl,rfl⟩) hHeldA_1 ?_
  (try simp only [Act.put,List.setIfInBounds_toArray,List.set_cons_zero,List.set_cons_succ])
  refine wpAnyH_take (i:=25) (oi:=_) (v:=undef) rfl (by kernel_rfl) (by kernel_rfl) (by kernel_rfl) (fun _ _ _ h=>h) (Or.inr ⟨by kernel_rfl,rfl⟩) hHeldA_1 ?_
  (try simp only [Act.put,List.setIfInBounds_toArray,List.set_cons_zero,List.set_cons_succ])
  refine wpAnyH_take (i:=26) (oi:=_) (v:=undef) rfl (by kernel_rfl) (by kernel_rfl) (by kernel_rfl) (fun _ _ _ h=>h) (Or.inr ⟨by kernel_rfl,rfl⟩) hHeldA_1 ?_
  (try simp only [Act.put,List.setIfInBounds_toArray,List.set_cons_zero,List.set_cons_succ])
  refine wpAnyH_take (i:=27) (oi:=_) (v:=undef) rfl (by kernel_rfl) (by kernel_rfl) (by kernel_rfl) (fun _ _ _ h=>h) (Or.inr ⟨by kernel_rfl,rfl⟩) hHeldA_1 ?_
  (try simp only [Act.put,List.setIfInBounds_toArray,List.set_cons_zero,List.set_cons_succ])
  refine wpAnyH_ready (rs:=[28]) (by kernel_rfl) (by simp) ?_
  refine AllReadyH.cons (o:=_) rfl (fun K hK=>?_) AllReadyH.nil
  rw [if_neg]
  rotate_left
  ·exact fun h=>Bool.noConfusion (h.symm.trans (by kernel_rfl:_=false))
  refine hK.out _ _ hHeldA_1 (fun hHeldA_2=>?_)
  clear hK K hHeldA_1
  (try simp only [Act.put,List.setIfInBounds_toArray,List.set_cons_zero,List.set_cons_succ])
  refine wpAnyH_take (i:=29) (oi:=⟨some 50,_,_,_,_,_⟩) (v:=?vA29) rfl (by kernel_rfl) (by kernel_rfl) (by kernel_rfl) (fun _ _ _ h=>h) (Or.inl ⟨by kernel_rfl,?hyA29⟩) hHeldA_2 ?restA29
  case hyA29=>intro w hSw;(try dsimp only at hSw);go_simp;(try with_reducible rfl)
  (try simp only [Act.put,List.setIfInBounds_toArray,List.set_cons_zero,List.set_cons_succ])
  refine wpAnyH_take (i:=30) (oi:=⟨some 8,_,_,_,_,_⟩) (v:=?vA30) rfl (by kernel_rfl) (by kernel_rfl) (by kernel_rfl) (fun _ _ _ h=>h) (Or.inl ⟨by kernel_rfl,?hyA30⟩) hHeldA_2 ?restA30
  case hyA30=>intro w hSw;(try dsimp only at hSw);go_simp;(try with_reducible rfl)
  (try simp only [Act.put,List.setIfInBounds_toArray,List.set_cons_zero,List.set_cons_succ])
  refine wpAnyH_done (by kernel_rfl) ?_ _
  refine NoPanic.normal ?_
  have HX:=Hd (HQ.out _ _ (seekPost.no rfl HKD.out HID.out))
  go_wp2_with fail
  exact HX.out
end Go.Proofs.YtfalelkfhandfaaGreatDoor
namespace Go.Proofs.YtfalelkfhandfaaGreatDoor
set_option linter.all false
theorem xI {P:Program} {w w':World} {ops:Array Oper} {rest:List Oper} {o:Oper} {a:Act} {Q:Exit→Act→World→Prop}
  (hg:o.guard=none) (m x v:Operand) (t:TypeId) {mv key val:Value} (hrun:(Instr.mapUpdate t mv key val).run P w=.ok () w') (hop:o.op=Op.mapUpdate t m x v)
  (hm:a.eval m=mv) (hx:a.eval x=key) (hv:a.eval v=val) (hK:wpList P ops Q rest (a.put o.dst undef) w'):wpList P ops Q (o::rest) a w:=by
 refine wpList_plain hg fun K' hK'=>?_
 unfold Oper.wp
 simp [execOp,hop,hm,hx,hv,hrun,Result.andThen]
 exact hK' _ _ hK
end Go.Proofs.YtfalelkfhandfaaGreatDoor
