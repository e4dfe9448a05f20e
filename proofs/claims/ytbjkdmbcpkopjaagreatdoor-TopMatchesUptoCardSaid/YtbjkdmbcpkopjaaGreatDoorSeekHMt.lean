/- Layer 17: the program's bind of a hole that is free, walked. -/
import Derived.Test.YtbjkdmbcpkopjaaGreatDoorMapUMt
import Derived.Test.YtbjkdmbcpkopjaaGreatDoorUntilMt
import Derived.Test.YtbjkdmbcpkopjaaGreatDoorCoreMt
namespace Go.Proofs.YtbjkdmbcpkopjaaGreatDoor
set_option maxRecDepth 100000
set_option maxHeartbeats 32000000
set_option linter.all false
attribute [local irreducible] Calls
open Go.RowKit

theorem zZz {σ:MSt} {h:Nat} {o p:Option (Nat×Nat)} (hq:σ[h]?=some o):(σ.set h p).set h o=σ:=by
 rw [List.set_set];apply List.ext_getElem?;intro j;rw [List.getElem?_set];by_cases e:h=j
 ·subst e;have:h<σ.length:=by
   by_cases c:h<σ.length
   ·exact c
   ·rw [List.getElem?_eq_none (by omega)] at hq;cases hq
  rw [iP rfl,iP this,hq]
 ·rw [iN e]
theorem zPe (E:SkE) (ok:SkOK E) (w:World) (σ:MSt) (hi:SkIn E σ w) (h:Nat) (hh:h<E.hs.length) (a b:Nat) (h1:a≤b) (h2:b≤E.l.length) (K:MSt→Option MSt) (tv:Value) (ht:ThenOK E K tv w) (hq:σ[h]?=some none) :
  Calls Tryz.prog 80 #[.pointer (some ⟨E.g,0,none⟩),.int .i64 (h:Int),.int .i64 (a:Int),.int .i64 (b:Int),tv] w (seekPost E ((bindS E.l σ h a b).bind K) σ w):=by
 have hbs:(bindS E.l σ h a b).bind K=K (σ.set h (some (a,b))):=by unfold bindS;rw [hq];rfl
 rw [hbs];obtain ⟨Q,hQ⟩:∃ Q,seekPost E (K (σ.set h (some (a,b)))) σ w=Q:=⟨_,rfl⟩;have HQ:Hid (∀ e w',seekPost E (K (σ.set h (some (a,b)))) σ w e w'→Q e w'):=Hd fun e w' h=>by rw [← hQ];exact h
 rw [hQ];clear hQ hbs;obtain ⟨k,cap,rfl,hcf,HT⟩:=ht;have hcf:=hcf cap;have HT:=Hd HT;obtain ⟨gb,cb,hvb,hcb,hB,hgb,b0,b1,b2,bz⟩:=hi.bindAt hh hq;obtain ⟨gz,cz,hvz,hcz,hBz,hgz,z0,zz⟩:=hi.boundAt hh hq;simp only [bindOf,Option.isSome_none] at b1 b2 z0;have hgs:E.g<w.heap.size:=lt_of_block hi.st.now.s;have c6:=hi.st.now.cells.2.2.2.2.2.2.1;have c7:=hi.st.now.cells.2.2.2.2.2.2.2;have HST1:=Hd (fun W (hi':SkIn E σ W)=>hi'.store ok.ne hh (o:=some (a,b)) (fun q e=>by cases e;exact ⟨h1,h2⟩) hvb hvz (v0:=.string (E.hs[h]).1) (v1:=.int .i64 (a:Int)) (v2:=.int .i64 (b:Int)) rfl);have HST2:=Hd (fun W (hi':SkIn E (σ.set h (some (a,b))) W)=>hi'.store ok.ne hh (o:=none) (fun q e=>by cases e) hvb hvz (v0:=.string (E.hs[h]).1) (v1:=.int .i64 0) (v2:=.int .i64 0) rfl);rw [zZz hq] at HST2;have HBO:Hid (some gb=E.vb.ownBlock):=Hd (by rw [hvb];rfl);have HZO:Hid (some gz=E.vz.ownBlock):=Hd (by rw [hvz];rfl);rw [hvb] at c6;rw [hvz] at c7;have hh0:(0:Int)≤(h:Int):=by omega
 have hhl:(h:Int)<E.hs.length:=by omega
 have hhn:=ok.hn;have HI:=Hd hi;have HB:Hid (Below w.heap.size w (w.alloc (.cells #[.string (E.hs[h]).1,.int .i64 (a:Int),.int .i64 (b:Int)] 46))):=Hd ((bR _ _).alloc (nR _) _);clear hi;simp only [Option.isSome_some,Option.isSome_none] at HST1 HST2;generalize (E.hs[h]).1=nm at *;go_enter Tryz.func80,Tryz.ntmps80;go_wp2_with fail;have x0:(w.alloc (.cells #[.string nm,.int .i64 (a:Int),.int .i64 (b:Int)] 46)).cell? ⟨w.heap.size,0,none⟩=some (.string nm):=World.cell?_alloc_at _ _ _ _ rfl;have x1:(w.alloc (.cells #[.string nm,.int .i64 (a:Int),.int .i64 (b:Int)] 46)).cell? ⟨w.heap.size,1,none⟩=some (.int .i64 (a:Int)):=World.cell?_alloc_at _ _ _ _ rfl;have x2:(w.alloc (.cells #[.string nm,.int .i64 (a:Int),.int .i64 (b:Int)] 46)).cell? ⟨w.heap.size,2,none⟩=some (.int .i64 (b:Int)):=World.cell?_alloc_at _ _ _ _ rfl;have e6:(w.alloc (.cells #[.string nm,.int .i64 (a:Int),.int .i64 (b:Int)] 46)).cell? ⟨E.g,6,none⟩=some (.slice (some ⟨gb,0,none⟩) E.hs.length cb):=by rw [HB.out.cell (p:=⟨E.g,6,none⟩) hgs];exact c6
 have e7:(w.alloc (.cells #[.string nm,.int .i64 (a:Int),.int .i64 (b:Int)] 46)).cell? ⟨E.g,7,none⟩=some (.slice (some ⟨gz,0,none⟩) E.hs.length cz):=by rw [HB.out.cell (p:=⟨E.g,7,none⟩) hgs];exact c7
 have y0:(w.alloc (.cells #[.string nm,.int .i64 (a:Int),.int .i64 (b:Int)] 46)).cell? ⟨gb,h*3,none⟩=some (.string nm):=by rw [HB.out.cell (p:=⟨gb,h*3,none⟩) hgb];exact b0
 have y1:(w.alloc (.cells #[.string nm,.int .i64 (a:Int),.int .i64 (b:Int)] 46)).cell? ⟨gb,h*3+1,none⟩=some (.int .i64 0):=by rw [HB.out.cell (p:=⟨gb,h*3+1,none⟩) hgb];exact b1
 have y2:(w.alloc (.cells #[.string nm,.int .i64 (a:Int),.int .i64 (b:Int)] 46)).cell? ⟨gb,h*3+2,none⟩=some (.int .i64 0):=by rw [HB.out.cell (p:=⟨gb,h*3+2,none⟩) hgb];exact b2
 have y3:(w.alloc (.cells #[.string nm,.int .i64 (a:Int),.int .i64 (b:Int)] 46)).cell? ⟨gz,h,none⟩=some (.bool false):=by rw [HB.out.cell (p:=⟨gz,h,none⟩) hgz];exact z0
 have r0:(w.alloc (.cells #[.string nm,.int .i64 (a:Int),.int .i64 (b:Int)] 46)).frozen? ⟨gb,h*3,none⟩=false:=by rw [HB.out.frozen (p:=⟨gb,h*3,none⟩) hgb];exact bz _
 have r1:(w.alloc (.cells #[.string nm,.int .i64 (a:Int),.int .i64 (b:Int)] 46)).frozen? ⟨gb,h*3+1,none⟩=false:=by rw [HB.out.frozen (p:=⟨gb,h*3+1,none⟩) hgb];exact bz _
 have r2:(w.alloc (.cells #[.string nm,.int .i64 (a:Int),.int .i64 (b:Int)] 46)).frozen? ⟨gb,h*3+2,none⟩=false:=by rw [HB.out.frozen (p:=⟨gb,h*3+2,none⟩) hgb];exact bz _
 have r3:(w.alloc (.cells #[.string nm,.int .i64 (a:Int),.int .i64 (b:Int)] 46)).frozen? ⟨gz,h,none⟩=false:=by rw [HB.out.frozen (p:=⟨gz,h,none⟩) hgz];exact zz _
 have HZ:Hid (w.heap.size<(w.alloc (.cells #[.string nm,.int .i64 (a:Int),.int .i64 (b:Int)] 46)).heap.size):=Hd (by simp);have HBd:=Hd HB.out.drew;have HKd:Hid (KeptX E w (w.alloc (.cells #[.string nm,.int .i64 (a:Int),.int .i64 (b:Int)] 46))):=Hd (KeptX.of_below HB.out);have HNE:Hid (∀ B,w.heap.size≤B→some B≠E.vb.ownBlock∧some B≠E.vz.ownBlock):=Hd fun B hB=>by
  rw [← HBO.out,← HZO.out];simp only [ne_eq,Option.some.injEq];exact ⟨by omega,by omega⟩
 have HNG:=Hd ok.nb;have HVB:=Hd hvb;have HVZ:=Hd hvz;have HI0:=Hd (HI.out.below HB.out);have HHH:=Hd hh;have HQN:=Hd hq;have HLN:=Hd HI.out.n;have hgz2:gb≠gz:=by
  rcases ok.ne with e | e
  ·rw [← HBO.out] at e;cases e
  ·intro e2;apply e;rw [← HBO.out,← HZO.out,e2]
 have hgz3:gz≠gb:=fun e=>hgz2 e.symm;generalize w.alloc (.cells #[.string nm,.int .i64 (a:Int),.int .i64 (b:Int)] 46)=W0 at *;generalize hss:w.heap.size=B at *;have HSS:=Hd hss;have HGS:=Hd hgs;clear hss c6 c7 b0 b1 b2 z0 hvb hvz HB bz zz;have HS:Hid (∀ W,KeptX E W0 W→(fun W=>W.cell? ⟨E.g,6,none⟩=some (.slice (some ⟨gb,0,none⟩) E.hs.length cb)∧W.cell? ⟨E.g,7,none⟩=some (.slice (some ⟨gz,0,none⟩) E.hs.length cz)∧W.cell? ⟨B,0,none⟩=some (.string nm)∧W.cell? ⟨B,1,none⟩=some (.int .i64 (a:Int))∧W.cell? ⟨B,2,none⟩=some (.int .i64 (b:Int))∧Hid (KeptX E w W)) W):=Hd fun W hk=>by
  have hz:B<W0.heap.size:=HZ.out;have hg:E.g<W0.heap.size:=by have:=HGS.out;omega
  have hne:=HNE.out B (nR _);have hng:=HNG.out;refine ⟨?_,?_,?_,?_,?_,Hd (HKd.out.trans hk)⟩
  ·rw [hk.cell hg hng.1 hng.2];exact e6
  ·rw [hk.cell hg hng.1 hng.2];exact e7
  ·rw [hk.cell hz hne.1 hne.2];exact x0
  ·rw [hk.cell hz hne.1 hne.2];exact x1
  ·rw [hk.cell hz hne.1 hne.2];exact x2
 have HSB:Hid (∀ W j v,KeptX E W0 W→KeptX E W0 (W.setCell ⟨gb,j,none⟩ v)):=Hd fun W j v hk=>hk.set (Or.inl HBO.out) v
 have HSZ:Hid (∀ W j v,KeptX E W0 W→KeptX E W0 (W.setCell ⟨gz,j,none⟩ v)):=Hd fun W j v hk=>hk.set (Or.inr HZO.out) v
 have HSD:Hid (∀ W,KeptX E W0 W→KeptX E W0 W.drew):=Hd fun W hk=>hk.trans (KeptX.drew E W)
 go_region_held3 (fun W=>W.cell? ⟨E.g,6,none⟩=some (.slice (some ⟨gb,0,none⟩) E.hs.length cb)∧W.cell? ⟨E.g,7,none⟩=some (.slice (some ⟨gz,0,none⟩) E.hs.length cz)∧W.cell? ⟨B,0,none⟩=some (.string nm)∧W.cell? ⟨B,1,none⟩=some (.int .i64 (a:Int))∧W.cell? ⟨B,2,none⟩=some (.int .i64 (b:Int))∧Hid (KeptX E w W)) ((refine HS.out _ ?_;repeat (first | exact KeptX.refl _ _ | refine HSD.out _ ?_ | refine HSB.out _ _ _ ?_ | refine HSZ.out _ _ _ ?_))) (fail)
 all_goals
  clear y0 y1 y2 y3 r0 r1 r2 r3 e6 e7 x0 x1 x2;go_wp2_with fail;refine (HT.out _ (σ.set h (some (a,b))) (by refine HKd.out.trans ?_;repeat (first | exact KeptX.refl _ _ | refine HSD.out _ ?_ | refine HSB.out _ _ _ ?_ | refine HSZ.out _ _ _ ?_)) (by first | exact (HST1.out W0 HI0.out).1.below (bR _ _).drew | exact (HST1.out W0 HI0.out).2.below (bR _ _).drew)).mono ?_;intro e w6 h6;obtain ⟨y,rfl⟩:=h6.bool;have hkw:KeptX E W0 w6:=KeptX.trans (by repeat (first | exact KeptX.refl _ _ | refine HSD.out _ ?_ | refine HSB.out _ _ _ ?_ | refine HSZ.out _ _ _ ?_)) h6.out.1;have HKW:=Hd hkw;clear hkw;have HO6:=Hd h6.out.2;clear h6;cases y with
  | true =>
   have hx:Q (.returned (.bool true)) w6:=by
    rcases HO6.out with ⟨τ,k1,_,k3⟩ | ⟨_,k2,_⟩
    ·exact HQ.out _ _ (seekPost.yes k1 (HKd.out.trans HKW.out) k3)
    ·cases k2
   have HX:=Hd hx;clear hx HO6;go_wp2_with fail;exact HX.out
  | false =>
   have hfin:K (σ.set h (some (a,b)))=none∧SkIn E (σ.set h (some (a,b))) w6:=by
    rcases HO6.out with ⟨τ,_,k2,_⟩ | ⟨k1,_,k3⟩
    ·cases k2
    ·exact ⟨k1,k3⟩
   have HF:=Hd hfin;obtain ⟨c6,c7,c0,_⟩:=HS.out w6 HKW.out;have hset:(σ.set h (some (a,b)))[h]?=some (some (a,b)):=List.getElem?_set_self (by have:=HLN.out;have:=HHH.out;omega);obtain ⟨gb',cb',hvb',_,_,hgb6,b0,b1,b2,bz⟩:=hfin.2.bindAt HHH.out hset;obtain ⟨gz',cz',hvz',_,_,hgz6,z0,zz⟩:=hfin.2.boundAt HHH.out hset;rw [HVB.out] at hvb';rw [HVZ.out] at hvz';simp only [Value.slice.injEq,Option.some.injEq,Addr.mk.injEq,and_true,true_and] at hvb' hvz';obtain ⟨rfl,rfl⟩:=hvb';obtain ⟨rfl,rfl⟩:=hvz';have r0:=bz (h*3);have r1:=bz (h*3+1);have r2:=bz (h*3+2);have r3:=zz h;have HSN:Hid (∀ W,KeptX E w6 W→(fun W=>W.cell? ⟨E.g,6,none⟩=some (.slice (some ⟨gb,0,none⟩) E.hs.length cb)∧W.cell? ⟨E.g,7,none⟩=some (.slice (some ⟨gz,0,none⟩) E.hs.length cz)∧W.cell? ⟨B,0,none⟩=some (.string nm)∧Hid (KeptX E w W)) W):=Hd fun W hk=>by
    obtain ⟨t1,t2,t3,_⟩:=HS.out W (HKW.out.trans hk);exact ⟨t1,t2,t3,Hd (HKd.out.trans (HKW.out.trans hk))⟩
   have HTB:Hid (∀ W j v,KeptX E w6 W→KeptX E w6 (W.setCell ⟨gb,j,none⟩ v)):=Hd fun W j v hk=>hk.set (Or.inl HBO.out) v
   have HTZ:Hid (∀ W j v,KeptX E w6 W→KeptX E w6 (W.setCell ⟨gz,j,none⟩ v)):=Hd fun W j v hk=>hk.set (Or.inr HZO.out) v
   have HTD:Hid (∀ W,KeptX E w6 W→KeptX E w6 W.drew):=Hd fun W hk=>hk.trans (KeptX.drew E W)
   clear bz zz hset hfin HO6;go_wp2_with fail
   go_region_held3 (fun W=>W.cell? ⟨E.g,6,none⟩=some (.slice (some ⟨gb,0,none⟩) E.hs.length cb)∧W.cell? ⟨E.g,7,none⟩=some (.slice (some ⟨gz,0,none⟩) E.hs.length cz)∧W.cell? ⟨B,0,none⟩=some (.string nm)∧Hid (KeptX E w W)) ((refine HSN.out _ ?_;repeat (first | exact KeptX.refl _ _ | refine HTD.out _ ?_ | refine HTB.out _ _ _ ?_ | refine HTZ.out _ _ _ ?_))) (fail)
   all_goals
    have HX:Hid (∀ W,KeptX E w6 W→SkIn E σ W→Q (.returned (.bool false)) W):=Hd fun W hk hw=>HQ.out _ _ (seekPost.no HF.out.1 (HKd.out.trans (HKW.out.trans hk)) hw)
    go_wp2_with fail;refine HX.out _ (by repeat (first | exact KeptX.refl _ _ | refine HTD.out _ ?_ | refine HTB.out _ _ _ ?_ | refine HTZ.out _ _ _ ?_)) ?_;first
     | exact (HST2.out w6 HF.out.2).1.below (bR _ _).drew
     | exact (HST2.out w6 HF.out.2).2.below (bR _ _).drew
theorem zTk (E:SkE) (ok:SkOK E) (w:World) (σ:MSt) (hi:SkIn E σ w) (h:Nat) (hh:h<E.hs.length) (a b:Nat) (h1:a≤b) (h2:b≤E.l.length) (K:MSt→Option MSt) (tv:Value) (ht:ThenOK E K tv w) :
  Calls Tryz.prog 80 #[.pointer (some ⟨E.g,0,none⟩),.int .i64 (h:Int),.int .i64 (a:Int),.int .i64 (b:Int),tv] w (seekPost E ((bindS E.l σ h a b).bind K) σ w):=by
 have hl:h<σ.length:=by rw [hi.n];exact hh
 cases ho:σ[h] with
 | some q=>exact zPd E ok w σ hi h hh a b h1 h2 K tv ht q (by rw [gE hl,ho])
 | none=>exact zPe E ok w σ hi h hh a b h1 h2 K tv ht (by rw [gE hl,ho])
theorem zPf {w:World} {v:Value} {k:IntKind} {xs:List Int} (h:zI w v k xs) (hp:0<xs.length):∃ b off cap,v=.slice (some ⟨b,off,none⟩) xs.length cap∧xs.length≤cap∧∀ i (hi:i<xs.length),w.cell? ⟨b,off+i,none⟩=some (.int k xs[i]):=by
 obtain ⟨a,cap,hv,hc,hrow⟩:=h.open';obtain ⟨b,off,rfl,_,hcell⟩:=hrow hp;exact ⟨b,off,cap,hv,hc,hcell⟩
theorem SkStat.ends {E:SkE} {w:World} (h:SkStat E w) {L:List Prt} {v:Value} (hv:∀ w',KeptX E w w'→zI w' v .i64 (endsL L)) (hp:0<L.length):∃ b off cap,v=.slice (some ⟨b,off,none⟩) L.length cap∧L.length≤cap∧∀ w',KeptX E w w'→∀ i,i<L.length→w'.cell? ⟨b,off+i,none⟩=some (.int .i64 (zB L i:Int)):=by
 have hl:=yC L;obtain ⟨b,off,cap,e,hc,_⟩:=zPf (hv w (KeptX.refl _ _)) (by omega);rw [hl] at e hc;refine ⟨b,off,cap,e,hc,fun w' hk i hi=>?_⟩;obtain ⟨b',off',cap',e',_,hcell⟩:=zPf (hv w' hk) (by omega);rw [e,hl] at e';simp only [Value.slice.injEq,Option.some.injEq,Addr.mk.injEq,and_true,true_and] at e';obtain ⟨⟨rfl,rfl⟩,rfl⟩:=e';rw [hcell i (by omega)];have:=zBh hi;rw [gE (by omega)] at this;rw [Option.some.inj this]
theorem SkStat.parts {E:SkE} {w:World} (h:SkStat E w) {L:List Prt} {v:Value} (hv:∀ w',KeptX E w w'→zF w' v L) (hp:0<L.length):∃ b off cap,v=.slice (some ⟨b,off,none⟩) L.length cap∧L.length≤cap∧∀ w',KeptX E w w'→∀ i (hi:i<L.length),w'.cell? ⟨b,off+i*3,none⟩=some (.int .u8 (L[i].1:Int))∧w'.cell? ⟨b,off+i*3+2,none⟩=some (.string L[i].2.2):=by
 obtain ⟨a,cap,e,hc⟩:=(hv w (KeptX.refl _ _)).slice;have h1:=hv w (KeptX.refl _ _);rw [e] at h1;obtain ⟨b,off,rfl,_,_,_,_⟩:=h1.at (bR _ _) hp;refine ⟨b,off,cap,e,hc,fun w' hk i hi=>?_⟩;have h2:=hv w' hk;rw [e] at h2;obtain ⟨b',off',e',_,_,_,hcell⟩:=h2.at (bR _ _) hp;simp only [Option.some.injEq,Addr.mk.injEq,and_true] at e';obtain ⟨rfl,rfl⟩:=e';exact ⟨(hcell i hi).1,(hcell i hi).2.2⟩
def PartC (E:SkE) (n:Nat):Prop:=∀ (w:World) (σ:MSt) (p i:Nat) (K:MSt→Option MSt) (tv:Value),SkIn E σ w→p<E.f.length→i<E.l.length→2*(zB E.f p-p)≤n→ThenOK E K tv w →
 Calls Tryz.prog 52 #[.pointer (some ⟨E.g,0,none⟩),.int .i64 (p:Int),.int .i64 (i:Int),tv] w (seekPost E (sPart E.f E.l E.hs n p i K σ) σ w)
def KidsC (E:SkE) (n:Nat):Prop:=∀ (w:World) (σ:MSt) (p pend i iend:Nat) (K:MSt→Option MSt) (tv:Value) (J M:Nat),SkIn E σ w→pend≤E.f.length→advT E.f J p pend=some pend→iend≤E.l.length→advT E.l M i iend=some iend→2*(pend-p)+1≤n→ThenOK E K tv w →
 Calls Tryz.prog 81 #[.pointer (some ⟨E.g,0,none⟩),.int .i64 (p:Int),.int .i64 (pend:Int),.int .i64 (i:Int),.int .i64 (iend:Int),tv] w (seekPost E (sKids E.f E.l E.hs n p pend i iend K σ) σ w)
structure SkRead (E:SkE) (w:World) (h p i:Nat) (kb ko kc lb lo lc eb eo ec:Nat):Prop where
 k:∀ W,KeptX E w W→W.cell? ⟨E.g,5,none⟩=some (.slice (some ⟨kb,ko,none⟩) E.hs.length kc)∧W.cell? ⟨kb,ko+h,none⟩=some (.int .u8 (hkind E.hs h:Int))
 l:∀ W,KeptX E w W→W.cell? ⟨E.g,1,none⟩=some (.slice (some ⟨lb,lo,none⟩) E.l.length lc)∧W.cell? ⟨lb,lo+i*3,none⟩=some (.int .u8 (zT E.l i:Int))
 e:∀ W,KeptX E w W→W.cell? ⟨E.g,3,none⟩=some (.slice (some ⟨eb,eo,none⟩) E.l.length ec)∧W.cell? ⟨eb,eo+i,none⟩=some (.int .i64 (zB E.l i:Int))
 kc:E.hs.length≤kc
 lc:E.l.length≤lc
 ec:E.l.length≤ec
theorem SkStat.read {E:SkE} {w:World} (hs:SkStat E w) {h p i:Nat} (hh:h<E.hs.length) (hi:i<E.l.length):∃ kb ko kc lb lo lc eb eo ec,SkRead E w h p i kb ko kc lb lo lc eb eo ec:=by
 obtain ⟨kb,ko,kc,hk,hkc,_⟩:=hs.now.kind hh;obtain ⟨lb,lo,lc,hl,hlc,hlp⟩:=hs.parts (L:=E.l) (v:=E.vl) (fun w' hk=>(hs w' hk).l) (by omega);obtain ⟨eb,eo,ec,he,hec,hep⟩:=hs.ends (L:=E.l) (v:=E.ve) (fun w' hk=>(hs w' hk).e) (by omega);refine ⟨kb,ko,kc,lb,lo,lc,eb,eo,ec,fun W hW=>?_,fun W hW=>?_,fun W hW=>?_,hkc,hlc,hec⟩
 ·have hc:=(hs W hW).cells;obtain ⟨kb',ko',kc',hk',_,hcell⟩:=(hs W hW).kind hh;rw [hk] at hk';simp only [Value.slice.injEq,Option.some.injEq,Addr.mk.injEq,and_true,true_and] at hk';obtain ⟨⟨rfl,rfl⟩,rfl⟩:=hk';exact ⟨by rw [hc.2.2.2.2.2.1,hk],hcell⟩
 ·have hc:=(hs W hW).cells;refine ⟨by rw [hc.2.1,hl],?_⟩;rw [(hlp W hW i hi).1];unfold zT;rw [gE hi]
 ·have hc:=(hs W hW).cells;exact ⟨by rw [hc.2.2.2.1,he],hep W hW i hi⟩
theorem zPg (E:SkE) (ok:SkOK E) (h7:∀ x∈E.hs,1≤x.2∧x.2≤7) (n:Nat) (w:World) (σ:MSt) (p i:Nat) (K:MSt→Option MSt) (tv:Value) (hi:SkIn E σ w) (hp:p<E.f.length) (hil:i<E.l.length) (ht:ThenOK E K tv w) (h:Nat) (ho:oneOf E.f E.hs p=some h) :
  Calls Tryz.prog 52 #[.pointer (some ⟨E.g,0,none⟩),.int .i64 (p:Int),.int .i64 (i:Int),tv] w (seekPost E (sPart E.f E.l E.hs (n+1) p i K σ) σ w):=by
 have hsp:sPart E.f E.l E.hs (n+1) p i K σ=if mayB (hkind E.hs h) (zT E.l i) then (bindS E.l σ h i (zB E.l i)).bind K else none:=by rw [sPart,ho]
 rw [hsp];obtain ⟨Q,hQ⟩:∃ Q,seekPost E (if mayB (hkind E.hs h) (zT E.l i) then (bindS E.l σ h i (zB E.l i)).bind K else none) σ w=Q:=⟨_,rfl⟩;have HQ:Hid (∀ e w',seekPost E (if mayB (hkind E.hs h) (zT E.l i) then (bindS E.l σ h i (zB E.l i)).bind K else none) σ w e w'→Q e w'):=Hd fun e w' h=>by rw [← hQ];exact h
 rw [hQ];clear hQ hsp;obtain ⟨hsev,hho,_⟩:=zDf E.f E.hs ho;have hh:=fN E.f E.hs hho;have C1:=zFl E ok w hi.st.now p hp;rw [hho] at C1;have C1:=Hd C1;have hk5:1≤hkind E.hs h∧hkind E.hs h≤5:=by
  have:=h7 _ (gM hh);have e:hkind E.hs h=(E.hs[h]).2:=by unfold hkind;rw [gE hh]
  rw [e] at hsev ⊢;unfold isSev at hsev;simp at hsev;omega
 have hkl:zT E.l i<256:=by
  have:=(ok.lk.2 _ (gM hil)).1;unfold zT;rw [gE hil];exact this
 have hg:=zP (zJ ok.hl) hil;have CM:=Hd (fun W=>zWf _ _ hk5.1 hk5.2 hkl W);have CB:=Hd (fun W (hk:KeptX E w W) (hs:SkIn E σ W)=>zTk E ok W σ hs h hh i (zB E.l i) (by omega) hg.2 K tv (ht.keep hk));obtain ⟨kb,ko,kc,lb,lo,lc,eb,eo,ec,R⟩:=hi.st.read (p:=p) hh hil;have HR:=Hd R;have HS:Hid (∀ W,KeptX E w W→(fun W=>W.cell? ⟨E.g,5,none⟩=some (.slice (some ⟨kb,ko,none⟩) E.hs.length kc)∧W.cell? ⟨kb,ko+h,none⟩=some (.int .u8 (hkind E.hs h:Int))∧W.cell? ⟨E.g,1,none⟩=some (.slice (some ⟨lb,lo,none⟩) E.l.length lc)∧W.cell? ⟨lb,lo+i*3,none⟩=some (.int .u8 (zT E.l i:Int))∧W.cell? ⟨E.g,3,none⟩=some (.slice (some ⟨eb,eo,none⟩) E.l.length ec)∧W.cell? ⟨eb,eo+i,none⟩=some (.int .i64 (zB E.l i:Int))∧Hid (KeptX E w W)) W):=Hd fun W hk=>⟨(R.k W hk).1,(R.k W hk).2,(R.l W hk).1,(R.l W hk).2,(R.e W hk).1,(R.e W hk).2,Hd hk⟩
 have HI:=Hd hi;have C2:=Hd (fun W (hk:KeptX E w W)=>fW E W ((hi.st.keep hk).now) ok.hn h hh);have hh0:(0:Int)≤(h:Int):=by omega
 have hhl:(h:Int)<E.hs.length:=by omega
 have hi0:(0:Int)≤(i:Int):=by omega
 have hill:(i:Int)<E.l.length:=by omega
 have hhn:=ok.hn;have hll:=ok.ll;have hkc:=R.kc;have hlc:=R.lc;have hec:=R.ec;rw [hsev] at C2;clear HR hi ht R hk5 hkl hg ho hho hsev;generalize hkind E.hs h=x at *;generalize zT E.l i=y at *;generalize zB E.l i=z at *;go_enter Tryz.func52,Tryz.ntmps52;go_wp2_with fail;refine C1.out.mono ?_;intro e w1 h1;unfold holePost at h1;obtain ⟨rfl,m,rfl⟩:=h1;unfold holeZ;go_wp2_with fail;refine (C2.out _ (KeptX.drewN E w m)).mono ?_;rintro e w2 ⟨rfl,rfl⟩;have HKD:Hid (KeptX E w (w.drewN (m+1))):=Hd (KeptX.drewN E w (m+1));have HID:Hid (SkIn E σ (w.drewN (m+1))):=Hd (HI.out.drewN (m+1));have HSA:=Hd (HS.out _ HKD.out);go_wp2_with fail;cases hm:mayB x y with
 | true =>
  rw [hm] at HQ CM;rw [iP rfl] at HQ;clear hm
  go_region_held3 (fun W=>W.cell? ⟨E.g,5,none⟩=some (.slice (some ⟨kb,ko,none⟩) E.hs.length kc)∧W.cell? ⟨kb,ko+h,none⟩=some (.int .u8 (x:Int))∧W.cell? ⟨E.g,1,none⟩=some (.slice (some ⟨lb,lo,none⟩) E.l.length lc)∧W.cell? ⟨lb,lo+i*3,none⟩=some (.int .u8 (y:Int))∧W.cell? ⟨E.g,3,none⟩=some (.slice (some ⟨eb,eo,none⟩) E.l.length ec)∧W.cell? ⟨eb,eo+i,none⟩=some (.int .i64 (z:Int))∧Hid (KeptX E w W)) (first | exact HSA.out | exact HS.out _ (HKD.out.trans hk6)) (first | ((go_at_call 79;(with_reducible refine (CM.out _).mono ?_);(rintro e w4 ⟨rfl,rfl⟩);(try dsimp only))) | ((go_at_call 80;(with_reducible refine (CB.out _ HKD.out HID.out).mono ?_);(intro e w6 h6;obtain ⟨v,rfl⟩:=h6.bool;have hk6:=h6.out.1);(try dsimp only))))
  all_goals
   have HX:=Hd (HQ.out _ _ (h6.from HKD.out));clear h6;go_wp2_with fail;exact HX.out
 | false =>
  rw [hm] at HQ CM;rw [iN (by simp)] at HQ;clear hm;refine wp_region_noPanic ?_;refine wp_region_held_drew (S:=fun W=>W.cell? ⟨E.g,5,none⟩=some (.slice (some ⟨kb,ko,none⟩) E.hs.length kc)∧W.cell? ⟨kb,ko+h,none⟩=some (.int .u8 (x:Int))∧W.cell? ⟨E.g,1,none⟩=some (.slice (some ⟨lb,lo,none⟩) E.l.length lc)∧W.cell? ⟨lb,lo+i*3,none⟩=some (.int .u8 (y:Int))∧W.cell? ⟨E.g,3,none⟩=some (.slice (some ⟨eb,eo,none⟩) E.l.length ec)∧W.cell? ⟨eb,eo+i,none⟩=some (.int .i64 (z:Int))∧Hid (KeptX E w W)) (by kernel_rfl) HSA.out (fun hHeldA=>?_);refine tH 0 _ hHeldA ?_;refine tH 1 _ hHeldA ?_;refine tH 2 _ hHeldA ?_;refine tH 3 _ hHeldA ?_;refine tH 4 _ hHeldA ?_;refine tH 5 _ hHeldA ?_;refine tH 6 _ hHeldA ?_;refine tH 7 _ hHeldA ?_;refine tH 8 _ hHeldA ?_;refine tH 9 _ hHeldA ?_;refine tH 10 _ hHeldA ?_;refine tH 11 _ hHeldA ?_;refine tH 12 _ hHeldA ?_;refine tH 13 _ hHeldA ?_;refine tH 14 _ hHeldA ?_;refine rH 15 _ fun K hK=>?_;go_simp
  go_at_call 79
  refine (CM.out _).mono ?_;rintro e w4 ⟨rfl,rfl⟩;(try dsimp only)
  refine hK.out _ _ hHeldA (fun hHeldA_1=>?_);clear hK K hHeldA;(try simp only [qA,qL,qZ,qS])
  refine tH 16 _ hHeldA_1 ?_;refine sH 17 _ hHeldA_1 ?_;refine sH 18 _ hHeldA_1 ?_;refine sH 19 _ hHeldA_1 ?_;refine sH 20 _ hHeldA_1 ?_;refine sH 21 _ hHeldA_1 ?_;refine sH 22 _ hHeldA_1 ?_;refine sH 23 _ hHeldA_1 ?_;refine sH 24 _ hHeldA_1 ?_;refine sH 25 _ hHeldA_1 ?_;refine sH 26 _ hHeldA_1 ?_;refine sH 27 _ hHeldA_1 ?_;refine rH 28 _ fun K hK=>?_;rw [iN]
  rotate_left
  ·exact fun h=>Bool.noConfusion (h.symm.trans (by kernel_rfl:_=false))
  refine hK.out _ _ hHeldA_1 (fun hHeldA_2=>?_);clear hK K hHeldA_1;(try simp only [qA,qL,qZ,qS])
  refine tH 29 50 hHeldA_2 ?_;refine tH 30 8 hHeldA_2 ?_;refine wpAnyH_done (by kernel_rfl) ?_ _;refine NoPanic.normal ?_;have HX:=Hd (HQ.out _ _ (seekPost.no rfl HKD.out HID.out));go_wp2_with fail;exact HX.out
theorem zCu {x y:ByteArray} (h:x≠y):x.toList≠y.toList:=fun e=>h (by
 rw [ByteArray.toList_eq,ByteArray.toList_eq] at e;exact ByteArray.ext (Array.ext' e))
def noOne (E:SkE) (p:Nat) (o:Option Nat):Prop:=zL E.f E.hs p=o∧∀ h,o=some h→h<E.hs.length∧isSev (hkind E.hs h)=true
theorem yAa {E:SkE} {p:Nat} (ho:oneOf E.f E.hs p=none):∃ o,noOne E p o:=by
 refine ⟨_,rfl,fun h e=>?_⟩;have hh:=fN E.f E.hs e;refine ⟨hh,?_⟩;unfold oneOf at ho;rw [e] at ho;simp only [] at ho;split at ho
 ·assumption
 ·cases ho
theorem zMc (E:SkE) (ok:SkOK E) (n:Nat) (IH:KidsC E n) (w:World) (σ:MSt) (p i:Nat) (K:MSt→Option MSt) (tv:Value) (hi:SkIn E σ w) (hp:p<E.f.length) (hil:i<E.l.length) (hn:2*(zB E.f p-p)≤n+1) (ht:ThenOK E K tv w) (ho:oneOf E.f E.hs p=none) :
  Calls Tryz.prog 52 #[.pointer (some ⟨E.g,0,none⟩),.int .i64 (p:Int),.int .i64 (i:Int),tv] w (seekPost E (sPart E.f E.l E.hs (n+1) p i K σ) σ w):=by
 have hsp:sPart E.f E.l E.hs (n+1) p i K σ=if alikeP E.f E.l p i then sKids E.f E.l E.hs n (p+1) (zB E.f p) (i+1) (zB E.l i) K σ else none:=by rw [sPart,ho]
 rw [hsp];obtain ⟨Q,hQ⟩:∃ Q,seekPost E (if alikeP E.f E.l p i then sKids E.f E.l E.hs n (p+1) (zB E.f p) (i+1) (zB E.l i) K σ else none) σ w=Q:=⟨_,rfl⟩;have HQ:Hid (∀ e w',seekPost E (if alikeP E.f E.l p i then sKids E.f E.l E.hs n (p+1) (zB E.f p) (i+1) (zB E.l i) K σ else none) σ w e w'→Q e w'):=Hd fun e w' h=>by rw [← hQ];exact h
 rw [hQ];clear hQ hsp;obtain ⟨o,ho1,ho2⟩:=yAa ho;have C1:=zFl E ok w hi.st.now p hp;rw [ho1] at C1;have C1:=Hd C1;have hfw:=zJ ok.hf.well;have hlw:=zJ ok.hl;have hgf:=zP hfw hp;have hgl:=zP hlw hil;obtain ⟨J,_,hJ⟩:=xF hfw hp;obtain ⟨M,_,hM⟩:=xF hlw hil;have CK:=Hd (fun W (hk:KeptX E w W) (hs:SkIn E σ W)=>IH W σ (p+1) (zB E.f p) (i+1) (zB E.l i) K tv J M hs hgf.2 hJ hgl.2 hM (by omega) (ht.keep hk));rw [show ((p+1:Nat):Int)=(p:Int)+1 by omega,show ((i+1:Nat):Int)=(i:Int)+1 by omega] at CK;obtain ⟨fb,fo,fc,hfv,hfc,hfp⟩:=hi.st.parts (L:=E.f) (v:=E.vf) (fun w' hk=>(hi.st w' hk).f) (by omega);obtain ⟨lb,lo,lc,hlv,hlc,hlp⟩:=hi.st.parts (L:=E.l) (v:=E.vl) (fun w' hk=>(hi.st w' hk).l) (by omega);obtain ⟨xb,xo,xc,hxv,hxc,hxp⟩:=hi.st.ends (L:=E.f) (v:=E.vfe) (fun w' hk=>(hi.st w' hk).fe) (by omega);obtain ⟨eb,eo,ec,hev,hec,hep⟩:=hi.st.ends (L:=E.l) (v:=E.ve) (fun w' hk=>(hi.st w' hk).e) (by omega);have HS:Hid (∀ W,KeptX E w W→W.cell? ⟨E.g,2,none⟩=some (.slice (some ⟨xb,xo,none⟩) E.f.length xc)∧W.cell? ⟨xb,xo+p,none⟩=some (.int .i64 (zB E.f p:Int))∧W.cell? ⟨E.g,3,none⟩=some (.slice (some ⟨eb,eo,none⟩) E.l.length ec)∧W.cell? ⟨eb,eo+i,none⟩=some (.int .i64 (zB E.l i:Int))∧Hid (KeptX E w W)):=Hd fun W hk=>by
  have hc:=(hi.st W hk).cells;exact ⟨by rw [hc.2.2.1,hxv],hxp W hk p hp,by rw [hc.2.2.2.1,hev],hep W hk i hil,Hd hk⟩
 have HF:Hid (∀ W,KeptX E w W→W.cell? ⟨E.g,0,none⟩=some (.slice (some ⟨fb,fo,none⟩) E.f.length fc)∧W.cell? ⟨E.g,1,none⟩=some (.slice (some ⟨lb,lo,none⟩) E.l.length lc)∧W.cell? ⟨fb,fo+p*3,none⟩=some (.int .u8 (E.f[p].1:Int))∧W.cell? ⟨fb,fo+p*3+2,none⟩=some (.string E.f[p].2.2)∧W.cell? ⟨lb,lo+i*3,none⟩=some (.int .u8 (E.l[i].1:Int))∧W.cell? ⟨lb,lo+i*3+2,none⟩=some (.string E.l[i].2.2)):=Hd fun W hk=>by
  have hc:=(hi.st W hk).cells;exact ⟨by rw [hc.1,hfv],by rw [hc.2.1,hlv],(hfp W hk p hp).1,(hfp W hk p hp).2,(hlp W hk i hil).1,(hlp W hk i hil).2⟩
 have hal:alikeP E.f E.l p i=(E.f[p].1 == E.l[i].1&&decide (E.f[p].2.2=E.l[i].2.2)):=by
  unfold alikeP;rw [gE hp,gE hil]
 have HAL:=Hd hal;have C2:=Hd (fun W (hk:KeptX E w W) h (hh:h<E.hs.length)=>fW E W ((hi.st.keep hk).now) ok.hn h hh);have HI:=Hd hi;have hp0:(0:Int)≤(p:Int):=by omega
 have hpl:(p:Int)<E.f.length:=by omega
 have hi0:(0:Int)≤(i:Int):=by omega
 have hill:(i:Int)<E.l.length:=by omega
 have hhn:=ok.hn;have hll:=ok.ll;have hfl:=ok.fl;have hwp:IntKind.i64.wrap ((p:Int)+1)=(p:Int)+1:=wI (by omega);have hwi:IntKind.i64.wrap ((i:Int)+1)=(i:Int)+1:=wI (by omega);have HO2:=Hd ho2;clear hi ht ho1 ho2 ho hfw hlw hgf hgl hJ hM hn hal hfv hlv hxv hev hfp hlp hxp hep;generalize E.f[p].1=kp at *;generalize E.f[p].2.2=sp at *;generalize E.l[i].1=kl at *;generalize E.l[i].2.2=sl at *;generalize zB E.f p=zf at *;generalize zB E.l i=zl at *;cases o with
 | none =>
  go_enter Tryz.func52,Tryz.ntmps52;go_wp2_with fail;refine C1.out.mono ?_;intro e w1 h1;unfold holePost at h1;obtain ⟨rfl,m,rfl⟩:=h1;unfold holeZ;obtain ⟨c0,c1,f0,f2,l0,l2⟩:=HF.out w (KeptX.refl E w);by_cases hkk:kp=kl
  ·have g1:((kp:Int) != (kl:Int))=false:=by rw [bne_eq_false_iff_eq];omega
   have g3:(kp != kl)=false:=by rw [bne_eq_false_iff_eq];exact hkk
   have g5:(kp == kl)=true:=by rw [beq_iff_eq];exact hkk
   by_cases hss:sp=sl
   ·have g2:(sp.toList != sl.toList)=false:=by rw [hss,bne_eq_false_iff_eq]
    have g4:(sp.toList == sl.toList)=true:=by rw [hss,beq_iff_eq]
    have hh:=HAL.out;rw [hkk,hss] at hh;simp only [beq_self_eq_true,decide_true,Bool.and_self] at hh;rw [hh,iP rfl] at HQ;clear hh hkk hss;go_wp2_with fail;go_quiet (fail);clear c0 c1 f0 f2 l0 l2 g1;go_wp2_with fail
    go_region_held3 (fun W=>W.cell? ⟨E.g,2,none⟩=some (.slice (some ⟨xb,xo,none⟩) E.f.length xc)∧W.cell? ⟨xb,xo+p,none⟩=some (.int .i64 (zf:Int))∧W.cell? ⟨E.g,3,none⟩=some (.slice (some ⟨eb,eo,none⟩) E.l.length ec)∧W.cell? ⟨eb,eo+i,none⟩=some (.int .i64 (zl:Int))∧Hid (KeptX E w W)) (first | exact HS.out _ ((KeptX.drewN E w m).trans (KeptX.drewN E _ (nq+1))) | exact HS.out _ (KeptX.drewN E w (m+nq+1)) | exact HS.out _ ((KeptX.drewN E w (m+nq+1)).trans hk6)) ((go_at_call 81;(with_reducible refine (CK.out _ (KeptX.drewN E w (m+nq+1)) (HI.out.drewN (m+nq+1))).mono ?_);(intro e w6 h6;obtain ⟨v,rfl⟩:=h6.bool;have hk6:=h6.out.1);(try dsimp only)))
    all_goals
     have HX:=Hd (HQ.out _ _ (h6.from (KeptX.drewN E w (m+nq+1))));clear h6;go_wp2_with fail;exact HX.out
   ·have g2:(sp.toList != sl.toList)=true:=by rw [bne_iff_ne];exact zCu hss
    have g4:(sp.toList == sl.toList)=false:=by rw [bE];exact zCu hss
    have hh:=HAL.out;rw [decide_eq_false hss,Bool.and_false] at hh;rw [hh,iN (by simp)] at HQ;have HX:=Hd (fun k=>HQ.out _ _ (seekPost.no rfl ((KeptX.drewN E w m).trans (KeptX.drewN E _ k)) ((HI.out.drewN m).drewN k)));clear hh hkk hss;go_wp2_with fail;go_quiet (fail);go_wp2_with fail;exact HX.out _
  ·have g1:((kp:Int) != (kl:Int))=true:=by rw [bne_iff_ne];omega
   have g3:(kp != kl)=true:=by rw [bne_iff_ne];exact hkk
   have g5:(kp == kl)=false:=by rw [bE];exact hkk
   have hh:=HAL.out;rw [show (kp == kl)=false by rw [bE];exact hkk,Bool.false_and] at hh;rw [hh,iN (by simp)] at HQ;have HX:=Hd (fun k=>HQ.out _ _ (seekPost.no rfl ((KeptX.drewN E w m).trans (KeptX.drewN E _ k)) ((HI.out.drewN m).drewN k)));clear hh hkk;go_wp2_with fail;go_quiet (fail);go_wp2_with fail;exact HX.out _
 | some h =>
  obtain ⟨hh,hsv⟩:=HO2.out h rfl;have hh0:(0:Int)≤(h:Int):=by omega
  go_enter Tryz.func52,Tryz.ntmps52;go_wp2_with fail;refine C1.out.mono ?_;intro e w1 h1;unfold holePost at h1;obtain ⟨rfl,m,rfl⟩:=h1;unfold holeZ;go_wp2_with fail;refine (C2.out _ (KeptX.drewN E w m) h hh).mono ?_;rw [hsv];rintro e w2 ⟨rfl,rfl⟩;obtain ⟨c0,c1,f0,f2,l0,l2⟩:=HF.out w (KeptX.refl E w);by_cases hkk:kp=kl
  ·have g1:((kp:Int) != (kl:Int))=false:=by rw [bne_eq_false_iff_eq];omega
   have g3:(kp != kl)=false:=by rw [bne_eq_false_iff_eq];exact hkk
   have g5:(kp == kl)=true:=by rw [beq_iff_eq];exact hkk
   by_cases hss:sp=sl
   ·have g2:(sp.toList != sl.toList)=false:=by rw [hss,bne_eq_false_iff_eq]
    have g4:(sp.toList == sl.toList)=true:=by rw [hss,beq_iff_eq]
    have hh:=HAL.out;rw [hkk,hss] at hh;simp only [beq_self_eq_true,decide_true,Bool.and_self] at hh;rw [hh,iP rfl] at HQ;clear hh hkk hss;go_wp2_with fail;go_quiet (fail);clear c0 c1 f0 f2 l0 l2 g1;go_wp2_with fail
    go_region_held3 (fun W=>W.cell? ⟨E.g,2,none⟩=some (.slice (some ⟨xb,xo,none⟩) E.f.length xc)∧W.cell? ⟨xb,xo+p,none⟩=some (.int .i64 (zf:Int))∧W.cell? ⟨E.g,3,none⟩=some (.slice (some ⟨eb,eo,none⟩) E.l.length ec)∧W.cell? ⟨eb,eo+i,none⟩=some (.int .i64 (zl:Int))∧Hid (KeptX E w W)) (first | exact HS.out _ ((KeptX.drewN E w m).trans (KeptX.drewN E _ (nq+1))) | exact HS.out _ (KeptX.drewN E w (m+nq+1)) | exact HS.out _ ((KeptX.drewN E w (m+nq+1)).trans hk6)) ((go_at_call 81;(with_reducible refine (CK.out _ (KeptX.drewN E w (m+nq+1)) (HI.out.drewN (m+nq+1))).mono ?_);(intro e w6 h6;obtain ⟨v,rfl⟩:=h6.bool;have hk6:=h6.out.1);(try dsimp only)))
    all_goals
     have HX:=Hd (HQ.out _ _ (h6.from (KeptX.drewN E w (m+nq+1))));clear h6;go_wp2_with fail;exact HX.out
   ·have g2:(sp.toList != sl.toList)=true:=by rw [bne_iff_ne];exact zCu hss
    have g4:(sp.toList == sl.toList)=false:=by rw [bE];exact zCu hss
    have hh:=HAL.out;rw [decide_eq_false hss,Bool.and_false] at hh;rw [hh,iN (by simp)] at HQ;have HX:=Hd (fun k=>HQ.out _ _ (seekPost.no rfl ((KeptX.drewN E w m).trans (KeptX.drewN E _ k)) ((HI.out.drewN m).drewN k)));clear hh hkk hss;go_wp2_with fail;go_quiet (fail);go_wp2_with fail;exact HX.out _
  ·have g1:((kp:Int) != (kl:Int))=true:=by rw [bne_iff_ne];omega
   have g3:(kp != kl)=true:=by rw [bne_iff_ne];exact hkk
   have g5:(kp == kl)=false:=by rw [bE];exact hkk
   have hh:=HAL.out;rw [show (kp == kl)=false by rw [bE];exact hkk,Bool.false_and] at hh;rw [hh,iN (by simp)] at HQ;have HX:=Hd (fun k=>HQ.out _ _ (seekPost.no rfl ((KeptX.drewN E w m).trans (KeptX.drewN E _ k)) ((HI.out.drewN m).drewN k)));clear hh hkk;go_wp2_with fail;go_quiet (fail);go_wp2_with fail;exact HX.out _
structure BoxAt (E:SkE) (w:World) (b:Nat) (v:Value):Prop where
 c:w.cell? ⟨b,0,none⟩=some v
 l:b<w.heap.size
 nb:some b≠E.vb.ownBlock
 nz:some b≠E.vz.ownBlock
theorem BoxAt.keep {E:SkE} {w w':World} {b:Nat} {v:Value} (h:BoxAt E w b v) (k:KeptX E w w'):BoxAt E w' b v :=
 ⟨by rw [k.cell h.l h.nb h.nz];exact h.c,Nat.lt_of_lt_of_le h.l k.size,h.nb,h.nz⟩
theorem yAb (E:SkE) (ok:SkOK E) (n:Nat) (IH:KidsC E n) (w0:World) (st:SkStat E w0) (p pend i iend:Nat) (K:MSt→Option MSt) (tv:Value) (ht:ThenOK E K tv w0) (b6 b7 b8 b9 b10 b11:Nat)
  (h6:BoxAt E w0 b6 (.pointer (some ⟨E.g,0,none⟩))) (h7:BoxAt E w0 b7 (.int .i64 (p:Int))) (h8:BoxAt E w0 b8 (.int .i64 (pend:Int))) (h9:BoxAt E w0 b9 (.int .i64 (i:Int))) (h10:BoxAt E w0 b10 (.int .i64 (iend:Int))) (h11:BoxAt E w0 b11 tv)
  (hp:p<E.f.length) (hil:i<E.l.length) (J M:Nat) (hpe:pend≤E.f.length) (hJ:advT E.f J (zB E.f p) pend=some pend) (hie:iend≤E.l.length) (hM:advT E.l M (zB E.l i) iend=some iend) (hn:2*(pend-zB E.f p)+1≤n) :
  ThenOK E (sKids E.f E.l E.hs n (zB E.f p) pend (zB E.l i) iend K) (.func (.func 115) #[] #[.pointer (some ⟨b6,0,none⟩),.pointer (some ⟨b7,0,none⟩),.pointer (some ⟨b8,0,none⟩),.pointer (some ⟨b9,0,none⟩),.pointer (some ⟨b10,0,none⟩),.pointer (some ⟨b11,0,none⟩)]) w0:=by
 refine ⟨_,_,rfl,jP Tryz.func115 (by kernel_rfl) rfl,fun w σ hk hi=>?_⟩;obtain ⟨Q,hQ⟩:∃ Q,seekPost E (sKids E.f E.l E.hs n (zB E.f p) pend (zB E.l i) iend K σ) σ w=Q:=⟨_,rfl⟩;have HQ:Hid (∀ e w',seekPost E (sKids E.f E.l E.hs n (zB E.f p) pend (zB E.l i) iend K σ) σ w e w'→Q e w'):=Hd fun e w' h=>by rw [← hQ];exact h
 rw [hQ];clear hQ;have CK:=Hd (fun W (hk:KeptX E w W) (hs:SkIn E σ W)=>IH W σ (zB E.f p) pend (zB E.l i) iend K tv J M hs hpe hJ hie hM hn ((ht.keep (by assumption)).keep hk));obtain ⟨xb,xo,xc,hxv,hxc,hxp⟩:=hi.st.ends (L:=E.f) (v:=E.vfe) (fun w' hk=>(hi.st w' hk).fe) (by omega);obtain ⟨eb,eo,ec,hev,hec,hep⟩:=hi.st.ends (L:=E.l) (v:=E.ve) (fun w' hk=>(hi.st w' hk).e) (by omega);have HS:Hid (∀ W,KeptX E w W→W.cell? ⟨b6,0,none⟩=some (.pointer (some ⟨E.g,0,none⟩))∧W.cell? ⟨b7,0,none⟩=some (.int .i64 (p:Int))∧W.cell? ⟨b8,0,none⟩=some (.int .i64 (pend:Int))∧W.cell? ⟨b9,0,none⟩=some (.int .i64 (i:Int))∧W.cell? ⟨b10,0,none⟩=some (.int .i64 (iend:Int))∧W.cell? ⟨b11,0,none⟩=some tv∧W.cell? ⟨E.g,2,none⟩=some (.slice (some ⟨xb,xo,none⟩) E.f.length xc)∧W.cell? ⟨xb,xo+p,none⟩=some (.int .i64 (zB E.f p:Int))∧W.cell? ⟨E.g,3,none⟩=some (.slice (some ⟨eb,eo,none⟩) E.l.length ec)∧W.cell? ⟨eb,eo+i,none⟩=some (.int .i64 (zB E.l i:Int))∧Hid (KeptX E w W)):=Hd fun W hW=>by
  have hc:=(hi.st W hW).cells;have hkw:=hk.trans hW;exact ⟨(h6.keep hkw).c,(h7.keep hkw).c,(h8.keep hkw).c,(h9.keep hkw).c,(h10.keep hkw).c,(h11.keep hkw).c,by rw [hc.2.2.1,hxv],hxp W hW p hp,by rw [hc.2.2.2.1,hev],hep W hW i hil,Hd hW⟩
 have HI:=Hd hi;have hp0:(0:Int)≤(p:Int):=by omega
 have hpl:(p:Int)<E.f.length:=by omega
 have hi0:(0:Int)≤(i:Int):=by omega
 have hill:(i:Int)<E.l.length:=by omega
 have hll:=ok.ll;have hfl:=ok.fl;clear hk hi h6 h7 h8 h9 h10 h11 ht hxv hev hxp hep hJ hM hn;generalize zB E.f p=zf at *;generalize zB E.l i=zl at *;go_enter Tryz.func115,Tryz.ntmps115;go_wp2_with fail
 go_region_held3 (fun W=>W.cell? ⟨b6,0,none⟩=some (.pointer (some ⟨E.g,0,none⟩))∧W.cell? ⟨b7,0,none⟩=some (.int .i64 (p:Int))∧W.cell? ⟨b8,0,none⟩=some (.int .i64 (pend:Int))∧W.cell? ⟨b9,0,none⟩=some (.int .i64 (i:Int))∧W.cell? ⟨b10,0,none⟩=some (.int .i64 (iend:Int))∧W.cell? ⟨b11,0,none⟩=some tv∧W.cell? ⟨E.g,2,none⟩=some (.slice (some ⟨xb,xo,none⟩) E.f.length xc)∧W.cell? ⟨xb,xo+p,none⟩=some (.int .i64 (zf:Int))∧W.cell? ⟨E.g,3,none⟩=some (.slice (some ⟨eb,eo,none⟩) E.l.length ec)∧W.cell? ⟨eb,eo+i,none⟩=some (.int .i64 (zl:Int))∧Hid (KeptX E w W)) (first | exact HS.out _ (KeptX.drew E w) | exact HS.out _ ((KeptX.drew E w).trans hk6)) ((go_at_call 81;(with_reducible refine (CK.out _ (KeptX.drew E w) (HI.out.below (bR _ _).drew)).mono ?_);(intro e w6 h6;obtain ⟨v,rfl⟩:=h6.bool;have hk6:=h6.out.1);(try dsimp only)))
 all_goals
  have HX:=Hd (HQ.out _ _ (h6.from (KeptX.drew E w)));clear h6;go_wp2_with fail;exact HX.out
theorem yAc (E:SkE) (ok:SkOK E) (n:Nat) (IH:KidsC E n) (w0:World) (st:SkStat E w0) (p pend i iend:Nat) (K:MSt→Option MSt) (tv:Value) (ht:ThenOK E K tv w0) (b6 b7 b8 b9 b10 b11:Nat)
  (h6:BoxAt E w0 b6 (.pointer (some ⟨E.g,0,none⟩))) (h7:BoxAt E w0 b7 (.int .i64 (p:Int))) (h8:BoxAt E w0 b8 (.int .i64 (pend:Int))) (h9:BoxAt E w0 b9 (.int .i64 (i:Int))) (h10:BoxAt E w0 b10 (.int .i64 (iend:Int))) (h11:BoxAt E w0 b11 tv)
  (hp:p<E.f.length) (J M:Nat) (hpe:pend≤E.f.length) (hJ:advT E.f J (zB E.f p) pend=some pend) (hie:iend≤E.l.length) (hM:advT E.l M i iend=some iend) (hn:2*(pend-zB E.f p)+1≤n) :
  ThenOK E (sKids E.f E.l E.hs n (zB E.f p) pend i iend K) (.func (.func 116) #[] #[.pointer (some ⟨b6,0,none⟩),.pointer (some ⟨b7,0,none⟩),.pointer (some ⟨b8,0,none⟩),.pointer (some ⟨b9,0,none⟩),.pointer (some ⟨b10,0,none⟩),.pointer (some ⟨b11,0,none⟩)]) w0:=by
 refine ⟨_,_,rfl,jP Tryz.func116 (by kernel_rfl) rfl,fun w σ hk hi=>?_⟩;obtain ⟨Q,hQ⟩:∃ Q,seekPost E (sKids E.f E.l E.hs n (zB E.f p) pend i iend K σ) σ w=Q:=⟨_,rfl⟩;have HQ:Hid (∀ e w',seekPost E (sKids E.f E.l E.hs n (zB E.f p) pend i iend K σ) σ w e w'→Q e w'):=Hd fun e w' h=>by rw [← hQ];exact h
 rw [hQ];clear hQ;have CK:=Hd (fun W (hk:KeptX E w W) (hs:SkIn E σ W)=>IH W σ (zB E.f p) pend i iend K tv J M hs hpe hJ hie hM hn ((ht.keep (by assumption)).keep hk));obtain ⟨xb,xo,xc,hxv,hxc,hxp⟩:=hi.st.ends (L:=E.f) (v:=E.vfe) (fun w' hk=>(hi.st w' hk).fe) (by omega);have HS:Hid (∀ W,KeptX E w W→W.cell? ⟨b6,0,none⟩=some (.pointer (some ⟨E.g,0,none⟩))∧W.cell? ⟨b7,0,none⟩=some (.int .i64 (p:Int))∧W.cell? ⟨b8,0,none⟩=some (.int .i64 (pend:Int))∧W.cell? ⟨b9,0,none⟩=some (.int .i64 (i:Int))∧W.cell? ⟨b10,0,none⟩=some (.int .i64 (iend:Int))∧W.cell? ⟨b11,0,none⟩=some tv∧W.cell? ⟨E.g,2,none⟩=some (.slice (some ⟨xb,xo,none⟩) E.f.length xc)∧W.cell? ⟨xb,xo+p,none⟩=some (.int .i64 (zB E.f p:Int))∧Hid (KeptX E w W)):=Hd fun W hW=>by
  have hc:=(hi.st W hW).cells;have hkw:=hk.trans hW;exact ⟨(h6.keep hkw).c,(h7.keep hkw).c,(h8.keep hkw).c,(h9.keep hkw).c,(h10.keep hkw).c,(h11.keep hkw).c,by rw [hc.2.2.1,hxv],hxp W hW p hp,Hd hW⟩
 have HI:=Hd hi;have hp0:(0:Int)≤(p:Int):=by omega
 have hpl:(p:Int)<E.f.length:=by omega
 have hll:=ok.ll;have hfl:=ok.fl;clear hk hi h6 h7 h8 h9 h10 h11 ht hxv hxp hJ hM hn;generalize zB E.f p=zf at *;go_enter Tryz.func116,Tryz.ntmps116;go_wp2_with fail
 go_region_held3 (fun W=>W.cell? ⟨b6,0,none⟩=some (.pointer (some ⟨E.g,0,none⟩))∧W.cell? ⟨b7,0,none⟩=some (.int .i64 (p:Int))∧W.cell? ⟨b8,0,none⟩=some (.int .i64 (pend:Int))∧W.cell? ⟨b9,0,none⟩=some (.int .i64 (i:Int))∧W.cell? ⟨b10,0,none⟩=some (.int .i64 (iend:Int))∧W.cell? ⟨b11,0,none⟩=some tv∧W.cell? ⟨E.g,2,none⟩=some (.slice (some ⟨xb,xo,none⟩) E.f.length xc)∧W.cell? ⟨xb,xo+p,none⟩=some (.int .i64 (zf:Int))∧Hid (KeptX E w W)) (first | exact HS.out _ (KeptX.drew E w) | exact HS.out _ ((KeptX.drew E w).trans hk6)) ((go_at_call 81;(with_reducible refine (CK.out _ (KeptX.drew E w) (HI.out.below (bR _ _).drew)).mono ?_);(intro e w6 h6;obtain ⟨v,rfl⟩:=h6.bool;have hk6:=h6.out.1);(try dsimp only)))
 all_goals
  have HX:=Hd (HQ.out _ _ (h6.from (KeptX.drew E w)));clear h6;go_wp2_with fail;exact HX.out
end Go.Proofs.YtbjkdmbcpkopjaaGreatDoor
