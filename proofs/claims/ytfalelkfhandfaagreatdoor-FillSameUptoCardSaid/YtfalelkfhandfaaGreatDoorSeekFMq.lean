/- Layer 17: the program's bind, walked. -/
import Derived.Test.YtfalelkfhandfaaGreatDoorPackMq
import Derived.Test.YtfalelkfhandfaaGreatDoorMapSMq
import Derived.Test.YtfalelkfhandfaaGreatDoorFindQMq
namespace Go.Proofs.YtfalelkfhandfaaGreatDoor
set_option maxRecDepth 100000
set_option maxHeartbeats 32000000
set_option linter.all false
attribute [local irreducible] Calls
open Go.RowKit

theorem seekPost.bool {E:SkE} {o:Option MSt} {σ:MSt} {w w':World} {e:Ending} (h:seekPost E o σ w e w'):∃ y,e=.returned (.bool y):=by
 obtain ⟨_,⟨τ,_,he,_⟩ | ⟨_,he,_⟩⟩:=h.out
 ·exact ⟨true,he⟩
 ·exact ⟨false,he⟩
theorem zLh (E:SkE) (ok:SkOK E) (w:World) (σ:MSt) (hi:SkIn E σ w) (h:Nat) (hh:h<E.hs.length) (a b:Nat) (h1:a≤b) (h2:b≤E.l.length) (K:MSt→Option MSt) (tv:Value) (ht:ThenOK E K tv w) (q:Nat×Nat) (hq:σ[h]?=some (some q)) :
  Calls Tryz.prog 118 #[.pointer (some ⟨E.g,0,none⟩),.int .i64 (h:Int),.int .i64 (a:Int),.int .i64 (b:Int),tv] w (seekPost E ((bindS E.l σ h a b).bind K) σ w):=by
 have HQ:Hid (∀ e w',seekPost E ((bindS E.l σ h a b).bind K) σ w e w'→seekPost E ((bindS E.l σ h a b).bind K) σ w e w'):=Hd fun e w' h=>h
 have hbs:bindS E.l σ h a b=if piece E.l q.1 q.2=piece E.l a b then some σ else none:=by unfold bindS;rw [hq]
 rw [hbs] at HQ ⊢
 obtain ⟨Q,hQ⟩:∃ Q,seekPost E ((if piece E.l q.1 q.2=piece E.l a b then some σ else none).bind K) σ w=Q:=⟨_,rfl⟩
 have HQ':Hid (∀ e w',seekPost E ((if piece E.l q.1 q.2=piece E.l a b then some σ else none).bind K) σ w e w'→Q e w'):=Hd fun e w' h=>by rw [← hQ];exact h
 rw [hQ]
 clear HQ hQ hbs
 obtain ⟨k,cap,rfl,hcf,HT⟩:=ht
 have hcf:=hcf cap
 have HT:=Hd HT
 obtain ⟨gb,cb,hvb,hcb,hB,hgb,b0,b1,b2,_⟩:=hi.bindAt hh hq
 obtain ⟨gz,cz,hvz,hcz,hBz,hgz,z0,_⟩:=hi.boundAt hh hq
 simp only [bindOf,Option.isSome_some] at b1 b2 z0
 obtain ⟨q1,q2⟩:=q
 simp only [] at b1 b2
 have hqr:=hi.r h (q1,q2) hq
 simp only [] at hqr
 have hgs:E.g<w.heap.size:=lt_of_block hi.st.now.s
 have c6:=hi.st.now.cells.2.2.2.2.2.2.1
 have c7:=hi.st.now.cells.2.2.2.2.2.2.2
 rw [hvb] at c6
 rw [hvz] at c7
 have hh0:(0:Int)≤(h:Int):=by omega
 have hhl:(h:Int)<E.hs.length:=by omega
 have hhn:=ok.hn
 have HI:=Hd hi
 have HB:Hid (Below w.heap.size w (w.alloc (.cells #[.string (E.hs[h]).1,.int .i64 (a:Int),.int .i64 (b:Int)] 52))):=Hd ((Below.refl _ _).alloc (Nat.le_refl _) _)
 have CS:=Hd (fun W (hb:Below w.heap.size w W)=>zVu E ok W ((hi.below hb).st.now) (E.hs[h]).1 (E.hs[h]).1 q1 q2 a b hqr.1 hqr.2 h1 h2)
 clear hi
 generalize (E.hs[h]).1=nm at *
 go_enter Tryz.func118,Tryz.ntmps118
 go_wp2_with fail
 have x0:(w.alloc (.cells #[.string nm,.int .i64 (a:Int),.int .i64 (b:Int)] 52)).cell? ⟨w.heap.size,0,none⟩=some (.string nm):=World.cell?_alloc_at _ _ _ _ rfl
 have x1:(w.alloc (.cells #[.string nm,.int .i64 (a:Int),.int .i64 (b:Int)] 52)).cell? ⟨w.heap.size,1,none⟩=some (.int .i64 (a:Int)):=World.cell?_alloc_at _ _ _ _ rfl
 have x2:(w.alloc (.cells #[.string nm,.int .i64 (a:Int),.int .i64 (b:Int)] 52)).cell? ⟨w.heap.size,2,none⟩=some (.int .i64 (b:Int)):=World.cell?_alloc_at _ _ _ _ rfl
 have e6:(w.alloc (.cells #[.string nm,.int .i64 (a:Int),.int .i64 (b:Int)] 52)).cell? ⟨E.g,6,none⟩=some (.slice (some ⟨gb,0,none⟩) E.hs.length cb):=by rw [HB.out.cell (p:=⟨E.g,6,none⟩) hgs];exact c6
 have y0:(w.alloc (.cells #[.string nm,.int .i64 (a:Int),.int .i64 (b:Int)] 52)).cell? ⟨gb,h*3,none⟩=some (.string nm):=by rw [HB.out.cell (p:=⟨gb,h*3,none⟩) hgb];exact b0
 have y1:(w.alloc (.cells #[.string nm,.int .i64 (a:Int),.int .i64 (b:Int)] 52)).cell? ⟨gb,h*3+1,none⟩=some (.int .i64 (q1:Int)):=by rw [HB.out.cell (p:=⟨gb,h*3+1,none⟩) hgb];exact b1
 have y2:(w.alloc (.cells #[.string nm,.int .i64 (a:Int),.int .i64 (b:Int)] 52)).cell? ⟨gb,h*3+2,none⟩=some (.int .i64 (q2:Int)):=by rw [HB.out.cell (p:=⟨gb,h*3+2,none⟩) hgb];exact b2
 have HZ:Hid (w.heap.size<(w.alloc (.cells #[.string nm,.int .i64 (a:Int),.int .i64 (b:Int)] 52)).heap.size):=Hd (by simp)
 have HBd:=Hd HB.out.drew
 have HKd:Hid (KeptX E w (w.alloc (.cells #[.string nm,.int .i64 (a:Int),.int .i64 (b:Int)] 52)).drew):=Hd (KeptX.of_below HB.out.drew)
 have HNE:Hid (∀ B,w.heap.size≤B→some B≠E.vb.ownBlock∧some B≠E.vz.ownBlock):=Hd fun B hB=>by
  rw [hvb,hvz]
  simp only [Value.ownBlock,ne_eq,Option.some.injEq]
  exact ⟨by omega,by omega⟩
 have HNG:=Hd ok.nb
 generalize w.alloc (.cells #[.string nm,.int .i64 (a:Int),.int .i64 (b:Int)] 52)=W0 at *
 generalize hss:w.heap.size=B at *
 have HSS:=Hd hss
 have HZd:Hid (B≤W0.drew.heap.size):=Hd (Nat.le_of_lt HZ.out)
 have HGS:=Hd hgs
 clear hss c6 c7 b0 b1 b2 z0 hvb hvz HB
 have HS:Hid (∀ W,KeptX E W0.drew W→(fun W=>W.cell? ⟨E.g,6,none⟩=some (.slice (some ⟨gb,0,none⟩) E.hs.length cb)∧W.cell? ⟨B,0,none⟩=some (.string nm)∧W.cell? ⟨B,1,none⟩=some (.int .i64 (a:Int))∧W.cell? ⟨B,2,none⟩=some (.int .i64 (b:Int))∧Hid (KeptX E w W)) W):=Hd fun W hk=>by
  have hz:B<W0.drew.heap.size:=HZ.out
  have hg:E.g<W0.drew.heap.size:=by have:=HGS.out;omega
  have hne:=HNE.out B (Nat.le_refl _)
  have hng:=HNG.out
  refine ⟨?_,?_,?_,?_,Hd (HKd.out.trans hk)⟩
  ·rw [hk.cell hg hng.1 hng.2];exact e6
  ·rw [hk.cell hz hne.1 hne.2];exact x0
  ·rw [hk.cell hz hne.1 hne.2];exact x1
  ·rw [hk.cell hz hne.1 hne.2];exact x2
 by_cases hpe:piece E.l q1 q2=piece E.l a b
 ·have HPE:=Hd hpe
  rw [if_pos hpe] at HQ'
  clear hpe
  refine wp_region_noPanic ?_
  refine wp_region_held_drew (S:=fun W=>W.cell? ⟨E.g,6,none⟩=some (.slice (some ⟨gb,0,none⟩) E.hs.length cb)∧W.cell? ⟨B,0,none⟩=some (.string nm)∧W.cell? ⟨B,1,none⟩=some (.int .i64 (a:Int))∧W.cell? ⟨B,2,none⟩=some (.int .i64 (b:Int))∧Hid (KeptX E w W)) (by kernel_rfl) (HS.out _ (KeptX.refl _ _)) (fun hHeldA=>?_)
  refine wpAnyH_take (i:=0) (oi:=_) (v:=?vA0) rfl (by kernel_rfl) (by kernel_rfl) (by kernel_rfl) (fun _ _ _ h=>h) (Or.inl ⟨by kernel_rfl,?hyA0⟩) hHeldA ?restA0
  case hyA0=>intro w q;(try dsimp only at q);go_simp;(try with_reducible rfl)
  (try simp only [aP])
  refine wpAnyH_take (i:=1) (oi:=_) (v:=?vA1) rfl (by kernel_rfl) (by kernel_rfl) (by kernel_rfl) (fun _ _ _ h=>h) (Or.inl ⟨by kernel_rfl,?hyA1⟩) hHeldA ?restA1
  case hyA1=>intro w q;(try dsimp only at q);go_simp;(try with_reducible rfl)
  (try simp only [aP])
  refine wpAnyH_take (i:=2) (oi:=_) (v:=?vA2) rfl (by kernel_rfl) (by kernel_rfl) (by kernel_rfl) (fun _ _ _ h=>h) (Or.inl ⟨by kernel_rfl,?hyA2⟩) hHeldA ?restA2
  case hyA2=>intro w q;(try dsimp only at q);go_simp;(try with_reducible rfl)
  (try simp only [aP])
  refine wpAnyH_take (i:=3) (oi:=_) (v:=?vA3) rfl (by kernel_rfl) (by kernel_rfl) (by kernel_rfl) (fun _ _ _ h=>h) (Or.inl ⟨by kernel_rfl,?hyA3⟩) hHeldA ?restA3
  case hyA3=>intro w q;(try dsimp only at q);go_simp;(try with_reducible rfl)
  (try simp only [aP])
  refine wpAnyH_take (i:=4) (oi:=_) (v:=?vA4) rfl (by kernel_rfl) (by kernel_rfl) (by kernel_rfl) (fun _ _ _ h=>h) (Or.inl ⟨by kernel_rfl,?hyA4⟩) hHeldA ?restA4
  case hyA4=>intro w q;(try dsimp only at q);go_simp;(try with_reducible rfl)
  (try simp only [aP])
  refine wpAnyH_take (i:=5) (oi:=_) (v:=?vA5) rfl (by kernel_rfl) (by kernel_rfl) (by kernel_rfl) (fun _ _ _ h=>h) (Or.inl ⟨by kernel_rfl,?hyA5⟩) hHeldA ?restA5
  case hyA5=>intro w q;(try dsimp only at q);go_simp;(try with_reducible rfl)
  (try simp only [aP])
  refine wpAnyH_take (i:=6) (oi:=_) (v:=?vA6) rfl (by kernel_rfl) (by kernel_rfl) (by kernel_rfl) (fun _ _ _ h=>h) (Or.inl ⟨by kernel_rfl,?hyA6⟩) hHeldA ?restA6
  case hyA6=>intro w q;(try dsimp only at q);go_simp;(try with_reducible rfl)
  (try simp only [aP])
  refine wpAnyH_take (i:=8) (oi:=_) (v:=?vA8) rfl (by kernel_rfl) (by kernel_rfl) (by kernel_rfl) (fun _ _ _ h=>h) (Or.inl ⟨by kernel_rfl,?hyA8⟩) hHeldA ?restA8
  case hyA8=>intro w q;(try dsimp only at q);go_simp;(try with_reducible rfl)
  (try simp only [aP])
  refine wpAnyH_ready (rs:=[7]) (by kernel_rfl) (by simp) ?_
  refine AllReadyH.cons (o:=_) rfl (fun K hK=>?_) AllReadyH.nil
  go_simp
  refine hK.out _ _ hHeldA (fun hHeldA_1=>?_)
  clear hK K hHeldA
  (try simp only [aP])
  refine wpAnyH_ready (rs:=[9]) (by kernel_rfl) (by simp) ?_
  refine AllReadyH.cons (o:=_) rfl (fun K hK=>?_) AllReadyH.nil
  go_simp
  go_at_call 131
  refine (CS.out _ (HSS.out ▸ HBd.out)).mono ?_
  rintro e w5 ⟨x,rfl,hx,hb5⟩
  obtain rfl:x=true:=hx.mpr HPE.out
  have HK5:=Hd (KeptX.of_below (E:=E) (HSS.out ▸ HBd.out.trans (hb5.mono HZd.out)))
  (try dsimp only)
  refine hK.out _ _ (HS.out _ (KeptX.of_below hb5)) (fun hHeldA_2=>?_)
  clear hK K hHeldA_1
  (try simp only [aP])
  refine wpAnyH_take (i:=10) (oi:=_) (v:=?vA10) rfl (by kernel_rfl) (by kernel_rfl) (by kernel_rfl) (fun _ _ _ h=>h) (Or.inl ⟨by kernel_rfl,?hyA10⟩) hHeldA_2 ?restA10
  case hyA10=>intro w q;(try dsimp only at q);go_simp;(try with_reducible rfl)
  (try simp only [aP])
  refine wpAnyH_take (i:=11) (oi:=_) (v:=?vA11) rfl (by kernel_rfl) (by kernel_rfl) (by kernel_rfl) (fun _ _ _ h=>h) (Or.inl ⟨by kernel_rfl,?hyA11⟩) hHeldA_2 ?restA11
  case hyA11=>intro w q;(try dsimp only at q);go_simp;(try with_reducible rfl)
  (try simp only [aP])
  refine wpAnyH_ready (rs:=[12]) (by kernel_rfl) (by simp) ?_
  refine AllReadyH.cons (o:=_) rfl (fun K hK=>?_) AllReadyH.nil
  go_simp
  refine (HT.out w5 σ HK5.out (HI.out.below (HSS.out ▸ HBd.out.trans (hb5.mono HZd.out)))).mono ?_
  intro e w6 h6
  obtain ⟨y,rfl⟩:=h6.bool
  have HR6:=Hd (h6.from HK5.out)
  have HK6:=Hd h6.out.1
  (try dsimp only)
  refine hK.out _ _ (HS.out _ ((KeptX.of_below hb5).trans HK6.out)) (fun hHeldA_3=>?_)
  clear hK K hHeldA_2
  (try simp only [aP])
  refine wpAnyH_take (i:=13) (oi:=_) (v:=?vA13) rfl (by kernel_rfl) (by kernel_rfl) (by kernel_rfl) (fun _ _ _ h=>h) (Or.inl ⟨by kernel_rfl,?hyA13⟩) hHeldA_3 ?restA13
  case hyA13=>intro w q;(try dsimp only at q);go_simp;(try with_reducible rfl)
  (try simp only [aP])
  refine wpAnyH_take (i:=14) (oi:=_) (v:=?vA14) rfl (by kernel_rfl) (by kernel_rfl) (by kernel_rfl) (fun _ _ _ h=>h) (Or.inl ⟨by kernel_rfl,?hyA14⟩) hHeldA_3 ?restA14
  case hyA14=>intro w q;(try dsimp only at q);go_simp;(try with_reducible rfl)
  (try simp only [aP])
  refine wpAnyH_done (by kernel_rfl) ?_ _
  refine NoPanic.normal ?_
  have HX:=Hd (HQ'.out _ _ HR6.out)
  go_wp2_with fail
  exact HX.out
 ·have HPE:=Hd hpe
  rw [if_neg hpe] at HQ'
  clear hpe
  refine wp_region_noPanic ?_
  refine wp_region_held_drew (S:=fun W=>W.cell? ⟨E.g,6,none⟩=some (.slice (some ⟨gb,0,none⟩) E.hs.length cb)∧W.cell? ⟨B,0,none⟩=some (.string nm)∧W.cell? ⟨B,1,none⟩=some (.int .i64 (a:Int))∧W.cell? ⟨B,2,none⟩=some (.int .i64 (b:Int))∧Hid (KeptX E w W)) (by kernel_rfl) (HS.out _ (KeptX.refl _ _)) (fun hHeldB=>?_)
  refine wpAnyH_take (i:=0) (oi:=_) (v:=?vB0) rfl (by kernel_rfl) (by kernel_rfl) (by kernel_rfl) (fun _ _ _ h=>h) (Or.inl ⟨by kernel_rfl,?hyB0⟩) hHeldB ?restB0
  case hyB0=>intro w q;(try dsimp only at q);go_simp;(try with_reducible rfl)
  (try simp only [aP])
  refine wpAnyH_take (i:=1) (oi:=_) (v:=?vB1) rfl (by kernel_rfl) (by kernel_rfl) (by kernel_rfl) (fun _ _ _ h=>h) (Or.inl ⟨by kernel_rfl,?hyB1⟩) hHeldB ?restB1
  case hyB1=>intro w q;(try dsimp only at q);go_simp;(try with_reducible rfl)
  (try simp only [aP])
  refine wpAnyH_take (i:=2) (oi:=_) (v:=?vB2) rfl (by kernel_rfl) (by kernel_rfl) (by kernel_rfl) (fun _ _ _ h=>h) (Or.inl ⟨by kernel_rfl,?hyB2⟩) hHeldB ?restB2
  case hyB2=>intro w q;(try dsimp only at q);go_simp;(try with_reducible rfl)
  (try simp only [aP])
  refine wpAnyH_take (i:=3) (oi:=_) (v:=?vB3) rfl (by kernel_rfl) (by kernel_rfl) (by kernel_rfl) (fun _ _ _ h=>h) (Or.inl ⟨by kernel_rfl,?hyB3⟩) hHeldB ?restB3
  case hyB3=>intro w q;(try dsimp only at q);go_simp;(try with_reducible rfl)
  (try simp only [aP])
  refine wpAnyH_take (i:=4) (oi:=_) (v:=?vB4) rfl (by kernel_rfl) (by kernel_rfl) (by kernel_rfl) (fun _ _ _ h=>h) (Or.inl ⟨by kernel_rfl,?hyB4⟩) hHeldB ?restB4
  case hyB4=>intro w q;(try dsimp only at q);go_simp;(try with_reducible rfl)
  (try simp only [aP])
  refine wpAnyH_take (i:=5) (oi:=_) (v:=?vB5) rfl (by kernel_rfl) (by kernel_rfl) (by kernel_rfl) (fun _ _ _ h=>h) (Or.inl ⟨by kernel_rfl,?hyB5⟩) hHeldB ?restB5
  case hyB5=>intro w q;(try dsimp only at q);go_simp;(try with_reducible rfl)
  (try simp only [aP])
  refine wpAnyH_take (i:=6) (oi:=_) (v:=?vB6) rfl (by kernel_rfl) (by kernel_rfl) (by kernel_rfl) (fun _ _ _ h=>h) (Or.inl ⟨by kernel_rfl,?hyB6⟩) hHeldB ?restB6
  case hyB6=>intro w q;(try dsimp only at q);go_simp;(try with_reducible rfl)
  (try simp only [aP])
  refine wpAnyH_take (i:=8) (oi:=_) (v:=?vB8) rfl (by kernel_rfl) (by kernel_rfl) (by kernel_rfl) (fun _ _ _ h=>h) (Or.inl ⟨by kernel_rfl,?hyB8⟩) hHeldB ?restB8
  case hyB8=>intro w q;(try dsimp only at q);go_simp;(try with_reducible rfl)
  (try simp only [aP])
  refine wpAnyH_ready (rs:=[7]) (by kernel_rfl) (by simp) ?_
  refine AllReadyH.cons (o:=_) rfl (fun K hK=>?_) AllReadyH.nil
  go_simp
  refine hK.out _ _ hHeldB (fun hHeldB_1=>?_)
  clear hK K hHeldB
  (try simp only [aP])
  refine wpAnyH_ready (rs:=[9]) (by kernel_rfl) (by simp) ?_
  refine AllReadyH.cons (o:=_) rfl (fun K hK=>?_) AllReadyH.nil
  go_simp
  go_at_call 131
  refine (CS.out _ (HSS.out ▸ HBd.out)).mono ?_
  rintro e w5 ⟨x,rfl,hx,hb5⟩
  obtain rfl:x=false:=by cases x with
   | false=>rfl
   | true=>exact absurd (hx.mp rfl) HPE.out
  have HB5:=Hd (HBd.out.trans (hb5.mono HZd.out))
  (try dsimp only)
  refine hK.out _ _ (HS.out _ (KeptX.of_below hb5)) (fun hHeldB_2=>?_)
  clear hK K hHeldB_1
  (try simp only [aP])
  refine wpAnyH_take (i:=10) (oi:=_) (v:=?vB10) rfl (by kernel_rfl) (by kernel_rfl) (by kernel_rfl) (fun _ _ _ h=>h) (Or.inl ⟨by kernel_rfl,?hyB10⟩) hHeldB_2 ?restB10
  case hyB10=>intro w q;(try dsimp only at q);go_simp;(try with_reducible rfl)
  (try simp only [aP])
  refine wpAnyH_take (i:=11) (oi:=_) (v:=undef) rfl (by kernel_rfl) (by kernel_rfl) (by kernel_rfl) (fun _ _ _ h=>h) (Or.inr ⟨by kernel_rfl,rfl⟩) hHeldB_2 ?_
  (try simp only [aP])
  refine wpAnyH_ready (rs:=[12]) (by kernel_rfl) (by simp) ?_
  refine AllReadyH.cons (o:=_) rfl (fun K hK=>?_) AllReadyH.nil
  rw [if_neg]
  rotate_left
  ·exact fun h=>Bool.noConfusion (h.symm.trans (by kernel_rfl:_=false))
  refine hK.out _ _ hHeldB_2 (fun hHeldB_3=>?_)
  clear hK K hHeldB_2
  (try simp only [aP])
  refine wpAnyH_take (i:=13) (oi:=_) (v:=?vB13) rfl (by kernel_rfl) (by kernel_rfl) (by kernel_rfl) (fun _ _ _ h=>h) (Or.inl ⟨by kernel_rfl,?hyB13⟩) hHeldB_3 ?restB13
  case hyB13=>intro w q;(try dsimp only at q);go_simp;(try with_reducible rfl)
  (try simp only [aP])
  refine wpAnyH_take (i:=14) (oi:=_) (v:=?vB14) rfl (by kernel_rfl) (by kernel_rfl) (by kernel_rfl) (fun _ _ _ h=>h) (Or.inl ⟨by kernel_rfl,?hyB14⟩) hHeldB_3 ?restB14
  case hyB14=>intro w q;(try dsimp only at q);go_simp;(try with_reducible rfl)
  (try simp only [aP])
  refine wpAnyH_done (by kernel_rfl) ?_ _
  refine NoPanic.normal ?_
  have HX:=Hd (HQ'.out _ _ (seekPost.no rfl (KeptX.of_below (HSS.out ▸ HB5.out)) (HI.out.below (HSS.out ▸ HB5.out))))
  go_wp2_with fail
  exact HX.out
end Go.Proofs.YtfalelkfhandfaaGreatDoor
namespace Go.Proofs.YtfalelkfhandfaaGreatDoor
set_option linter.all false
open Go.RowKit

theorem KeptX.set {E:SkE} {w w':World} (h:KeptX E w w') {g j:Nat} (hg:some g=E.vb.ownBlock∨some g=E.vz.ownBlock) (v:Value):KeptX E w (w'.setCell ⟨g,j,none⟩ v) :=
 ⟨h.os,h.tape,h.output,by simp;exact h.size,fun k hk h1 h2=>by
  rw [heap_setCell_other _ _ _ _ (show k≠g by rintro rfl;rcases hg with e | e <;> contradiction)]
  exact h.block k hk h1 h2⟩
theorem SkIn.store {E:SkE} {σ:MSt} {w:World} (h:SkIn E σ w) (ne:E.vb.ownBlock=none∨E.vb.ownBlock≠E.vz.ownBlock) {k:Nat} (hk:k<E.hs.length) {o:Option (Nat×Nat)} (hr:∀ q,o=some q→q.1≤q.2∧q.2≤E.l.length) {gb cb gz cz:Nat} (hvb:E.vb=.slice (some ⟨gb,0,none⟩) E.hs.length cb) (hvz:E.vz=.slice (some ⟨gz,0,none⟩) E.hs.length cz) {v0 v1 v2:Value} (hv:bindV (bindOf E.hs[k] o)=[v0,v1,v2]) :
  SkIn E (σ.set k o) ((((w.setCell ⟨gb,k*3,none⟩ v0).setCell ⟨gb,k*3+1,none⟩ v1).setCell ⟨gb,k*3+2,none⟩ v2).setCell ⟨gz,k,none⟩ (.bool o.isSome)) ∧
  SkIn E (σ.set k o) ((((w.setCell ⟨gz,k,none⟩ (.bool o.isSome)).setCell ⟨gb,k*3,none⟩ v0).setCell ⟨gb,k*3+1,none⟩ v1).setCell ⟨gb,k*3+2,none⟩ v2):=by
 have hbo:some gb=E.vb.ownBlock:=by rw [hvb];rfl
 have hzo:some gz=E.vz.ownBlock:=by rw [hvz];rfl
 have hbz:gb≠gz:=by
  rcases ne with e | e
  ·rw [← hbo] at e;cases e
  ·intro e2;apply e;rw [← hbo,← hzo,e2]
 have hb:=h.b
 have hz:=h.z
 rw [hvb] at hb
 rw [hvz] at hz
 have hbl:(bindsV (bindsOf E.hs σ)).length=E.hs.length*3:=by rw [gD,zCb h.n]
 have hzl:(boundV σ).length=E.hs.length:=by unfold boundV;rw [List.length_map];exact h.n
 have e1:(((bindsV (bindsOf E.hs σ)).set (k*3) v0).set (k*3+1) v1).set (k*3+2) v2=bindsV (bindsOf E.hs (σ.set k o)):=by
  unfold bindsV
  rw [zHj (g:=bindV) (fun _=>rfl) _ k (bindOf E.hs[k] o) v0 v1 v2 (by rw [zCb h.n];exact hk) hv,zLg _ _ _ _ hk h.n]
 have e2:(boundV σ).set k (.bool o.isSome)=boundV (σ.set k o):=(zNp σ k o).symm
 have s1:=xH (xH (xH hb (k*3) (by omega) v0) (k*3+1) (by rw [List.length_set];omega) v1) (k*3+2) (by rw [List.length_set,List.length_set];omega) v2
 rw [e1] at s1
 have z1:(((w.setCell ⟨gb,k*3,none⟩ v0).setCell ⟨gb,k*3+1,none⟩ v1).setCell ⟨gb,k*3+2,none⟩ v2).ownsRow E.B 4 1 (.slice (some ⟨gz,0,none⟩) E.hs.length cz) E.hs.length (boundV σ) :=
  ownsRow_setCell_other (ownsRow_setCell_other (ownsRow_setCell_other hz (by simp [Value.ownBlock];omega) _) (by simp [Value.ownBlock];omega) _) (by simp [Value.ownBlock];omega) _
 have z2:=xH z1 k (by omega) (.bool o.isSome)
 rw [e2] at z2
 have s2:=ownsRow_setCell_other s1 (a:=⟨gz,k,none⟩) (by simp [Value.ownBlock];omega) (.bool o.isSome)
 have t1:=xH hz k (by omega) (.bool o.isSome)
 rw [e2] at t1
 have t2:(((((w.setCell ⟨gz,k,none⟩ (.bool o.isSome)).setCell ⟨gb,k*3,none⟩ v0).setCell ⟨gb,k*3+1,none⟩ v1).setCell ⟨gb,k*3+2,none⟩ v2)).ownsRow E.B 4 1 (.slice (some ⟨gz,0,none⟩) E.hs.length cz) E.hs.length (boundV (σ.set k o)) :=
  ownsRow_setCell_other (ownsRow_setCell_other (ownsRow_setCell_other t1 (by simp [Value.ownBlock];omega) _) (by simp [Value.ownBlock];omega) _) (by simp [Value.ownBlock];omega) _
 have u1:=ownsRow_setCell_other hb (a:=⟨gz,k,none⟩) (by simp [Value.ownBlock];omega) (.bool o.isSome)
 have u2:=xH (xH (xH u1 (k*3) (by omega) v0) (k*3+1) (by rw [List.length_set];omega) v1) (k*3+2) (by rw [List.length_set,List.length_set];omega) v2
 rw [e1] at u2
 have K0:=KeptX.refl E w
 refine ⟨h.turn hr ((((K0.set (Or.inl hbo) _).set (Or.inl hbo) _).set (Or.inl hbo) _).set (Or.inr hzo) _) (by rw [hvb];exact s2) (by rw [hvz];exact z2),
  h.turn hr ((((K0.set (Or.inr hzo) _).set (Or.inl hbo) _).set (Or.inl hbo) _).set (Or.inl hbo) _) (by rw [hvb];exact u2) (by rw [hvz];exact t2)⟩
end Go.Proofs.YtfalelkfhandfaaGreatDoor
namespace Go.Proofs.YtfalelkfhandfaaGreatDoor
set_option linter.all false

def rootP:Prt:=(13,1,ByteArray.empty)
def byS (r:RuleM):List Prt:=if r.goal=3 then rootP::r.fnd else r.fnd
theorem zHc (a:Prt) (f:List Prt) (p:Nat):zA (a::f) (p+1)=zA f p+1:=by
 unfold zA;rw [List.drop_succ_cons];omega
theorem zKv (a:Prt) (f:List Prt) (p:Nat) (h:Hl):yC (a::f) (p+1) h=yC f p h:=by
 unfold yC;simp only [List.getElem?_cons_succ]
theorem zKw (a:Prt) (f:List Prt) (hs:List Hl) (p:Nat):zM (a::f) hs (p+1)=zM f hs p:=by
 unfold zM
 rw [show yC (a::f) (p+1)=yC f p from funext (zKv a f p)]
theorem zEv (a:Prt) (f:List Prt) (hs:List Hl) (v:Nat→List Prt):∀ n,(∀ p,iPart (a::f) hs v n (p+1)=iPart f hs v n p)∧(∀ p pend,iKids (a::f) hs v n (p+1) (pend+1)=iKids f hs v n p pend)
 | 0=>⟨(fun p=>by rw [iPart,iPart]),(fun p pend=>by rw [iKids,iKids])⟩
 | n+1=>by
  obtain ⟨h1,h2⟩:=zEv a f hs v n
  constructor
  ·intro p
   rw [iPart,iPart,zKw,List.getElem?_cons_succ,zHc]
   cases zM f hs p with
   | some h=>rfl
   | none =>
    simp only []
    cases f[p]? with
    | none=>rfl
    | some b=>simp only [h2]
  ·intro p pend
   rw [iKids,iKids,zHc,h1,h2]
   by_cases e:p=pend
   ·rw [if_pos (by omega),if_pos e]
   ·rw [if_neg (by omega),if_neg e]
theorem zQb (f:List Prt) (hs:List Hl):zM (rootP::f) hs 0=none:=by
 unfold zM
 rw [List.findIdx?_eq_none_iff]
 intro h _
 unfold yC
 split
 ·cases f with
  | nil=>rfl
  | cons b f=>rfl
 ·rfl
theorem zQc {f:List Prt} (hf:zZ f=true) (hs:List Hl) (v:Nat→List Prt):∃ c,instZ (rootP::f) hs v=c::instZ f hs v:=by
 have hw:zZ (rootP::f)=true:=by
  rw [kJ,List.length_cons]
  rw [jA (p:=rootP) (kJ.1 hf) (by decide) (by simp [rootP])]
  simp [rootP];omega
 have h0:=yD hf
 have h1:=(yD hw).2
 rw [List.length_cons] at h1
 unfold instZ
 rw [show fuelZ (rootP::f)=fuelZ f+1+1 by unfold fuelZ;rw [List.length_cons];omega,iPart,zQb]
 simp only [List.getElem?_cons_zero]
 rw [h1,(zEv rootP f hs v (fuelZ f+1)).2 0 f.length,iKids,if_neg (by omega),h0.2,show fuelZ f=2*f.length+1 from rfl,iKids,if_pos rfl,List.append_nil]
 exact ⟨_,rfl⟩
theorem zTh {r:RuleM} (hb:r.by'=byS r) {l:List Prt} {i:Nat} {τ:MSt} (h:atZ r l (i:Int)=some τ):(outP r l (bindsOf r.holes τ)).map (·.1)=piece l i (zA l i):=by
 obtain ⟨h1,_,h3⟩:=zMt h
 rw [show ((i:Int)).toNat=i by omega] at h3
 have hf:=(xQ (jH h).1).1.well
 rw [(zAg r.fnd l r.holes (bOf (bindsOf r.holes τ)) (gC h1) (fuelZ r.fnd)).1 0] at h3
 have hm:(madeP r l (bindsOf r.holes τ)).map (·.1)=instZ r.by' r.holes (fun k=>piece l (bOf (bindsOf r.holes τ) k).1 (bOf (bindsOf r.holes τ) k).2):=(zAg r.by' l r.holes (bOf (bindsOf r.holes τ)) (gC h1) (fuelZ r.by')).1 0
 rw [hb] at hm
 unfold outP
 by_cases hg:r.goal=3
 ·rw [if_pos hg,List.map_drop,hm,byS,if_pos hg]
  obtain ⟨c,e⟩:=zQc hf r.holes (fun k=>piece l (bOf (bindsOf r.holes τ) k).1 (bOf (bindsOf r.holes τ) k).2)
  rw [e,List.drop_succ_cons,List.drop_zero]
  exact h3
 ·rw [if_neg hg,hm,byS,if_neg hg]
  exact h3
theorem zKx {r:RuleM} {l:List Prt} {i:Nat} {τ:MSt} (h:atZ r l (i:Int)=some τ):rightB r l (bindsOf r.holes τ)=true:=by
 obtain ⟨h1,h2,h3,h4,h5,h6,h7⟩:=jH h
 have he:=zJ (zI h2) (show i<l.length by omega)
 rw [vD]
 refine ⟨by unfold bindsOf;rw [List.length_zipWith];omega,fun k hk hb=>?_⟩
 obtain ⟨q1,q2,n,⟨_,e⟩,g1,g2,g3,g4,g5⟩:=zMs h hk
 rw [e]
 unfold okB
 simp only [Int.toNat_natCast,g4,Bool.and_eq_true,decide_eq_true_eq,Bool.or_eq_true]
 refine ⟨trivial,⟨by omega,by omega,by omega⟩,by omega,?_⟩
 cases hs:isSev (r.holes[k]).2 with
 | true=>exact Or.inl rfl
 | false =>
  obtain ⟨a1,_,a3⟩:=g5 hs
  exact Or.inr ⟨by omega,a3⟩
def FoundP (rs:List RuleM) (l:List Prt) (p:Pk):Prop:=0≤p.1∧∃ r τ,∃ i:Nat,rs[p.1.toNat]?=some r∧p.2.1=(i:Int)∧atZ r l (i:Int)=some τ∧p.2.2=bindsOf r.holes τ
def FreeP (l:List Prt):Nat→List Pk→Prop
 | _,[]=>True
 | a,p::P=>(a:Int)≤p.2.1∧FreeP l (zA l p.2.1.toNat) P
theorem FoundP.back {rs:List RuleM} (hB:∀ r∈rs,r.by'=byS r) {l:List Prt} {n x:Int} {bs:List Bnd} (h:FoundP rs l (n,x,bs)):∃ r,∃ i:Nat,0≤n∧n<rs.length∧rs[n.toNat]?=some r∧x=(i:Int)∧i<l.length∧zZ l=true∧rightB r l bs=true∧(outP r l bs).map (·.1)=piece l i (zA l i)∧(outP r l bs).length=zA l i-i∧kE r l bs=1:=by
 obtain ⟨h0,r,τ,i,hr,hx,ha,hbs⟩:=h
 simp only [] at h0 hr hx hbs
 subst hx hbs
 obtain ⟨h1,h2,h3,h4,_⟩:=jH ha
 have hl:=zI h2
 have hi:i<l.length:=by omega
 have he:=zJ hl hi
 obtain ⟨hn,e⟩:=List.getElem?_eq_some_iff.1 hr
 have ho:=zTh (hB r (e ▸ List.getElem_mem hn)) ha
 refine ⟨r,i,h0,by omega,hr,rfl,hi,h2,zKx ha,ho,?_,?_⟩
 ·have g:=congrArg List.length ho
  rw [List.length_map] at g
  unfold piece at g
  rw [List.length_take,List.length_drop] at g
  omega
 ·unfold kE
  rw [ho]
  obtain ⟨t,ht⟩:=fS hl hi
  exact jP ht
theorem zHd {rs:List RuleM} (hB:∀ r∈rs,r.by'=byS r) {l:List Prt} (hs:l.length≤131072):∀ {P:List Pk} {free:Nat},(∀ p∈P,FoundP rs l p)→FreeP l free P→yG rs l P free l.length=0
 | [],free,_,_=>by rw [yG,if_neg (by omega)]
 | (n,x,bs)::P,free,hP,hF=>by
  obtain ⟨r,i,h0,h1,hr,rfl,hi,hw,h2,h3,h4,h5⟩:=(hP (n,x,bs) (by simp)).back hB
  have he:=zJ (zI hw) hi
  obtain ⟨hf1,hf2⟩:=hF
  simp only [Int.toNat_natCast] at hf1 hf2
  rw [yG,if_neg (by omega),hr]
  simp only [Int.toNat_natCast]
  rw [if_neg (by rw [h2];simp),if_neg (by omega),if_neg (fun g=>g.1 h5),h4,show ((l.length:Int)+((zA l i-i:Nat):Int)-((zA l i:Int)-(i:Int)))=l.length by omega]
  exact zHd hB hs (fun p hp=>hP p (by simp [hp])) hf2
def KeepM (l:List Prt) (m:Mk):Prop:=m.1<l.length∧m.2.1.map (·.1)=piece l m.1 (zA l m.1)∧m.2.2=0
theorem zHe {l:List Prt} (i:Nat):∀ {A:List Mk},(∀ m∈A,KeepM l m)→yL l A i=0
 | [],_=>rfl
 | (x,m,d)::A,h=>by
  have h1:=(h (x,m,d) (by simp)).2.2
  simp only [] at h1
  subst h1
  rw [yL,zHe i (fun m hm=>h m (by simp [hm]))]
  split <;> rfl
theorem zEw {l:List Prt} {A:List Mk} (h:∀ m∈A,KeepM l m) {a b:Nat} (h1:a≤b) (h2:b≤l.length):(stays l A a b).map (·.1)=piece l a b:=by
 unfold stays
 rw [← zAv l h1 h2]
 unfold srcL
 rw [List.map_map,List.map_map]
 apply List.map_congr_left
 intro i _
 show ((zT l i).1,(zT l i).2.1+yL l A i,(zT l i).2.2)=zT l i
 rw [zHe i h,Int.add_zero]
theorem zQd (l:List Prt) (i:Nat):piece l i l.length=l.drop i:=by
 unfold piece
 rw [List.take_of_length_le (by rw [List.length_drop];omega)]
theorem zEx {l:List Prt} {a b:Nat} (h:a≤b):piece l a b++l.drop b=l.drop a:=by
 unfold piece
 conv=>rhs;rw [← List.take_append_drop (b-a) (l.drop a)]
 rw [List.drop_drop,show a+(b-a)=b by omega]
theorem zEy {l:List Prt} {us:List Nat} (hl:zF l=some us) {A:List Mk} (hA:∀ m∈A,KeepM l m):∀ (P:List Mk) (n i:Nat),(∀ m∈P,KeepM l m)→Free l i P→l.length-i<n→i≤l.length→(outGo l A n i P).map (·.1)=l.drop i
 | [],n,i,_,_,hn,hi=>by
  rw [zBo l A n i hn,zEw hA hi (Nat.le_refl _),zQd]
 | (x,m,d)::R,n,i,hP,hF,hn,hi=>by
  obtain ⟨h1,h2,h3⟩:=hF
  obtain ⟨n',hn',e⟩:=zDu l A hl n i x m d R h1 h2 hn
  have he:=zJ hl h2
  have hk:=(hP (x,m,d) (by simp)).2.1
  simp only [] at hk
  rw [e,List.map_append,List.map_append,zEw hA h1 (by omega),hk,zEy hl hA R n' (zA l x) (fun m hm=>hP m (by simp [hm])) h3 hn' he.2,zEx (by omega),zEx h1]
theorem zQe (l:List Prt) (a b:List Int):(guardZ l a).map (·.1)=(guardZ l b).map (·.1):=by
 unfold guardZ gSeg
 rw [List.map_flatMap,List.map_flatMap]
 congr 1
 funext i
 unfold gOne
 rw [List.map_append,List.map_append]
 rfl
theorem zQf {rs:List RuleM} (hB:∀ r∈rs,r.by'=byS r) {l:List Prt} (hs:l.length≤131072) (hf:yB rs l=0) {P:List Pk} (hP:∀ p∈P,FoundP rs l p) (hF:FreeP l 0 P):∃ o:List Int,stepZ rs l P=(guardZ l o,0):=by
 have hw:=(kF.1 hf).1
 have h0:yG rs l P ((0:Nat):Int) l.length=0:=zHd hB hs hP hF
 have hK:∀ m∈kD rs l P,KeepM l m:=by
  intro m hm
  obtain ⟨⟨n,x,bs⟩,hp,rfl⟩:=List.mem_map.1 hm
  obtain ⟨r,i,_,_,hr,rfl,hi,_,_,h3,_,h5⟩:=(hP _ hp).back hB
  rw [zBh hr]
  refine ⟨hi,h3,?_⟩
  show kE r l bs-1=0
  omega
 have hO:(stepOut rs l P).map (·.1)=l:=by
  unfold stepOut
  rw [zEy (zI hw) hK _ _ _ hK (fX h0) (by omega) (Nat.zero_le _)]
  exact List.drop_zero
 refine ⟨(stepOut rs l P).map (·.2),?_⟩
 unfold stepZ withZ
 rw [if_neg (by rw [hf];simp),if_neg (by rw [show yG rs l P 0 l.length=0 from h0];simp),hO,if_pos hw]
end Go.Proofs.YtfalelkfhandfaaGreatDoor
