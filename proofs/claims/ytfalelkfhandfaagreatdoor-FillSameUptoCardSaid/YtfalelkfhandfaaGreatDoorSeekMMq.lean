/- Layer 17: the program's kids, walked. -/
import Derived.Test.YtfalelkfhandfaaGreatDoorSeekKMq
import Derived.Test.YtfalelkfhandfaaGreatDoorRulesVMq
import Derived.Test.YtfalelkfhandfaaGreatDoorFindPMq
import Derived.Test.YtfalelkfhandfaaGreatDoorAppEqMq
import Derived.Test.YtfalelkfhandfaaGreatDoorCheckBMq
namespace Go.Proofs.YtfalelkfhandfaaGreatDoor
set_option linter.all false
attribute [local irreducible] Calls
open Go.RowKit

def boxed (w:World) (g:Nat) (p pend i iend:Nat) (tv:Value):World :=
 (((((w.alloc (.cells #[.pointer (some ⟨g,0,none⟩)] 144)).alloc (.cells #[.int .i64 (p:Int)] 3)).alloc (.cells #[.int .i64 (pend:Int)] 3)).alloc (.cells #[.int .i64 (i:Int)] 3)).alloc (.cells #[.int .i64 (iend:Int)] 3)).alloc (.cells #[tv] 26)
theorem jJ (w:World) (g:Nat) (p pend i iend:Nat) (tv:Value):Below w.heap.size w (boxed w g p pend i iend tv):=by
 unfold boxed
 exact ((((((Below.refl _ _).alloc (Nat.le_refl _) _).alloc (by simp) _).alloc (by simp;try omega) _).alloc (by simp;try omega) _).alloc (by simp;try omega) _).alloc (by simp;try omega) _
theorem zAr (w:World) (g:Nat) (p pend i iend:Nat) (tv:Value):(boxed w g p pend i iend tv).heap.size=w.heap.size+6:=by unfold boxed;simp
theorem zUd (w:World) (g:Nat) (p pend i iend:Nat) (tv:Value):(boxed w g p pend i iend tv).cell? ⟨w.heap.size,0,none⟩=some (.pointer (some ⟨g,0,none⟩))∧(boxed w g p pend i iend tv).cell? ⟨w.heap.size+1,0,none⟩=some (.int .i64 (p:Int))∧(boxed w g p pend i iend tv).cell? ⟨w.heap.size+2,0,none⟩=some (.int .i64 (pend:Int))∧(boxed w g p pend i iend tv).cell? ⟨w.heap.size+3,0,none⟩=some (.int .i64 (i:Int))∧(boxed w g p pend i iend tv).cell? ⟨w.heap.size+4,0,none⟩=some (.int .i64 (iend:Int))∧(boxed w g p pend i iend tv).cell? ⟨w.heap.size+5,0,none⟩=some tv:=by
 unfold boxed
 refine ⟨?_,?_,?_,?_,?_,?_⟩
 ·rw [World.cell?_alloc_past _ _ _ (show _<_ by simp;try omega),World.cell?_alloc_past _ _ _ (show _<_ by simp;try omega),World.cell?_alloc_past _ _ _ (show _<_ by simp;try omega),World.cell?_alloc_past _ _ _ (show _<_ by simp;try omega),World.cell?_alloc_past _ _ _ (show _<_ by simp;try omega)]
  exact World.cell?_alloc_at _ _ _ _ (by simp)
 ·rw [World.cell?_alloc_past _ _ _ (show _<_ by simp;try omega),World.cell?_alloc_past _ _ _ (show _<_ by simp;try omega),World.cell?_alloc_past _ _ _ (show _<_ by simp;try omega),World.cell?_alloc_past _ _ _ (show _<_ by simp;try omega)]
  exact World.cell?_alloc_at _ _ _ _ (by simp)
 ·rw [World.cell?_alloc_past _ _ _ (show _<_ by simp;try omega),World.cell?_alloc_past _ _ _ (show _<_ by simp;try omega),World.cell?_alloc_past _ _ _ (show _<_ by simp;try omega)]
  exact World.cell?_alloc_at _ _ _ _ (by simp)
 ·rw [World.cell?_alloc_past _ _ _ (show _<_ by simp;try omega),World.cell?_alloc_past _ _ _ (show _<_ by simp;try omega)]
  exact World.cell?_alloc_at _ _ _ _ (by simp)
 ·rw [World.cell?_alloc_past _ _ _ (show _<_ by simp;try omega)]
  exact World.cell?_alloc_at _ _ _ _ (by simp)
 ·exact World.cell?_alloc_at _ _ _ _ (by simp)
set_option maxRecDepth 100000 in
set_option maxHeartbeats 16000000 in
theorem zLl (E:SkE) (ok:SkOK E) (n:Nat) (w:World) (σ:MSt) (p i iend:Nat) (K:MSt→Option MSt) (tv:Value) (hi:SkIn E σ w) (hpe:p≤E.f.length) (hie:iend≤E.l.length) (hile:i≤iend) (ht:ThenOK E K tv w) :
  Calls Tryz.prog 119 #[.pointer (some ⟨E.g,0,none⟩),.int .i64 (p:Int),.int .i64 (p:Int),.int .i64 (i:Int),.int .i64 (iend:Int),tv] w (seekPost E (sKids E.f E.l E.hs (n+1) p p i iend K σ) σ w):=by
 have hsk:sKids E.f E.l E.hs (n+1) p p i iend K σ=if i=iend then K σ else none:=by rw [sKids,if_pos rfl]
 rw [hsk]
 obtain ⟨Q,hQ⟩:∃ Q,seekPost E (if i=iend then K σ else none) σ w=Q:=⟨_,rfl⟩
 have HQ:RowKit.Hid (∀ e w',seekPost E (if i=iend then K σ else none) σ w e w'→Q e w'):=Hd fun e w' h=>by rw [← hQ];exact h
 rw [hQ]
 clear hQ hsk
 obtain ⟨k,cap,rfl,hcf,HT⟩:=ht
 have hcf:=hcf cap
 have HT:=Hd HT
 have HI:=Hd hi
 have HBX:RowKit.Hid (Below w.heap.size w (boxed w E.g p p i iend (.func (.func k) #[] cap))):=Hd (jJ _ _ _ _ _ _ _)
 have hpp:((p:Int) == (p:Int))=true:=by rw [beq_iff_eq]
 clear hi
 by_cases hii:i=iend
 ·subst hii
  rw [if_pos rfl] at HQ
  go_enter Tryz.func119,Tryz.ntmps119
  go_wp2_with fail
  refine (HT.out _ σ (KeptX.of_below HBX.out) (HI.out.below HBX.out)).mono ?_
  intro e w6 h6
  obtain ⟨y,rfl⟩:=h6.bool
  have HX:=Hd (HQ.out _ _ (h6.from (KeptX.of_below HBX.out)))
  clear h6
  go_wp2_with fail
  exact HX.out
 ·have g1:((i:Int) == (iend:Int))=false:=by rw [beq_eq_false_iff_ne];omega
  have g2:(i == iend)=false:=by rw [beq_eq_false_iff_ne];exact hii
  rw [if_neg hii] at HQ
  have HX:=Hd (HQ.out _ _ (seekPost.no rfl (KeptX.of_below HBX.out) (HI.out.below HBX.out)))
  clear hii
  go_enter Tryz.func119,Tryz.ntmps119
  go_wp2_with fail
  exact HX.out
end Go.Proofs.YtfalelkfhandfaaGreatDoor
namespace Go.Proofs.YtfalelkfhandfaaGreatDoor
set_option linter.all false
attribute [local irreducible] Calls
open Go.RowKit

theorem zHk {E:SkE} {w:World} {σ:MSt} (hi:SkIn E σ w) (p pend i iend:Nat) (tv:Value) (hne:∀ b,w.heap.size≤b→some b≠E.vb.ownBlock∧some b≠E.vz.ownBlock) :
  BoxAt E (boxed w E.g p pend i iend tv) w.heap.size (.pointer (some ⟨E.g,0,none⟩))∧BoxAt E (boxed w E.g p pend i iend tv) (w.heap.size+1) (.int .i64 (p:Int))∧BoxAt E (boxed w E.g p pend i iend tv) (w.heap.size+2) (.int .i64 (pend:Int))∧BoxAt E (boxed w E.g p pend i iend tv) (w.heap.size+3) (.int .i64 (i:Int))∧BoxAt E (boxed w E.g p pend i iend tv) (w.heap.size+4) (.int .i64 (iend:Int))∧BoxAt E (boxed w E.g p pend i iend tv) (w.heap.size+5) tv:=by
 have hs:=zAr w E.g p pend i iend tv
 obtain ⟨c0,c1,c2,c3,c4,c5⟩:=zUd w E.g p pend i iend tv
 exact ⟨⟨c0,by omega,(hne _ (by omega)).1,(hne _ (by omega)).2⟩,⟨c1,by omega,(hne _ (by omega)).1,(hne _ (by omega)).2⟩,⟨c2,by omega,(hne _ (by omega)).1,(hne _ (by omega)).2⟩,⟨c3,by omega,(hne _ (by omega)).1,(hne _ (by omega)).2⟩,⟨c4,by omega,(hne _ (by omega)).1,(hne _ (by omega)).2⟩,⟨c5,by omega,(hne _ (by omega)).1,(hne _ (by omega)).2⟩⟩
theorem zLm {w:World} {B:Nat} {v:Value} {e:TypeId} {size n:Nat} {xs:List Value} (h:w.ownsRow B e size v n xs):∀ b,w.heap.size≤b→some b≠v.ownBlock:=by
 intro b hb e
 rcases h.2 with ⟨hv,_⟩ | ⟨g,cap,cur,hv,_,hh,_⟩
 ·rw [hv] at e;cases e
 ·rw [hv] at e
  simp only [Value.ownBlock,Option.some.injEq] at e
  have:=zD hh
  omega
theorem SkIn.fresh {E:SkE} {σ:MSt} {w:World} (h:SkIn E σ w):∀ b,w.heap.size≤b→some b≠E.vb.ownBlock∧some b≠E.vz.ownBlock:=fun b hb=>⟨zLm h.b b hb,zLm h.z b hb⟩
set_option maxRecDepth 100000 in
set_option maxHeartbeats 16000000 in
theorem zLn (E:SkE) (ok:SkOK E) (n:Nat) (IHP:PartC E n) (IHK:KidsC E n) (w:World) (σ:MSt) (p pend i iend:Nat) (K:MSt→Option MSt) (tv:Value) (J M:Nat) (hi:SkIn E σ w) (hpe:pend≤E.f.length) (hJ:advT E.f J p pend=some pend) (hie:iend≤E.l.length) (hM:advT E.l M i iend=some iend) (hn:2*(pend-p)+1≤n+1) (ht:ThenOK E K tv w) (hpp:p≠pend) (hsv:sevOf E.f E.hs p=none) :
  Calls Tryz.prog 119 #[.pointer (some ⟨E.g,0,none⟩),.int .i64 (p:Int),.int .i64 (pend:Int),.int .i64 (i:Int),.int .i64 (iend:Int),tv] w (seekPost E (sKids E.f E.l E.hs (n+1) p pend i iend K σ) σ w):=by
 have hsk:sKids E.f E.l E.hs (n+1) p pend i iend K σ=if i<iend then sPart E.f E.l E.hs n p i (sKids E.f E.l E.hs n (zA E.f p) pend (zA E.l i) iend K) σ else none:=by rw [sKids,if_neg hpp,hsv]
 rw [hsk]
 obtain ⟨Q,hQ⟩:∃ Q,seekPost E (if i<iend then sPart E.f E.l E.hs n p i (sKids E.f E.l E.hs n (zA E.f p) pend (zA E.l i) iend K) σ else none) σ w=Q:=⟨_,rfl⟩
 have HQ:RowKit.Hid (∀ e w',seekPost E (if i<iend then sPart E.f E.l E.hs n p i (sKids E.f E.l E.hs n (zA E.f p) pend (zA E.l i) iend K) σ else none) σ w e w'→Q e w'):=Hd fun e w' h=>by rw [← hQ];exact h
 rw [hQ]
 clear hQ hsk
 have ht':=ht
 obtain ⟨kf,kcap,rfl,_,_⟩:=ht'
 have hfw:=zI ok.hf.well
 have hlw:=zI ok.hl
 obtain ⟨hplt,J',_,hJ'⟩:=yR hJ hpp
 have hle:=yZ hfw _ _ _ _ hpe hJ'
 have hgf:=zJ hfw (show p<E.f.length by omega)
 have HB:RowKit.Hid (Below w.heap.size w (boxed w E.g p pend i iend (.func (.func kf) #[] kcap))):=Hd (jJ _ _ _ _ _ _ _)
 have hbx:=zHk hi p pend i iend (.func (.func kf) #[] kcap) hi.fresh
 have HI:=Hd (hi.below (jJ w E.g p pend i iend (.func (.func kf) #[] kcap)))
 have C1:=Hd (zDi E ok _ HI.out.st.now p (by omega))
 have C2:=Hd (fun W (hk:KeptX E (boxed w E.g p pend i iend (.func (.func kf) #[] kcap)) W) h (hh:h<E.hs.length)=>gV E W ((HI.out.st.keep hk).now) ok.hn h hh)
 have C3:=Hd (fun W=>zFz (some ⟨E.g,0,none⟩) W)
 have CP:=Hd (fun W (hk:KeptX E (boxed w E.g p pend i iend (.func (.func kf) #[] kcap)) W) (hs:SkIn E σ W) (hii:i<iend) =>
  IHP W σ p i _ _ hs (by omega) (by omega) (by omega) ((zUb E ok n IHK W hs.st p pend i iend K (.func (.func kf) #[] kcap) (ht.keep ((KeptX.of_below HB.out).trans hk)) _ _ _ _ _ _ (hbx.1.keep hk) (hbx.2.1.keep hk) (hbx.2.2.1.keep hk) (hbx.2.2.2.1.keep hk) (hbx.2.2.2.2.1.keep hk) (hbx.2.2.2.2.2.keep hk) (by omega) (by omega) J' (M-1) hpe hJ' hie (by
   obtain ⟨_,M',e,hM'⟩:=yR hM (show i≠iend by omega)
   rw [show M-1=M' by omega];exact hM') (by omega))))
 have hmf:∀ (fn:Fn) (first cap:Array Value) (w:World),(Instr.makeFunc fn first cap).run Tryz.prog w=.ok (.func fn first cap) w:=fun _ _ _ _=>rfl
 have g1:((p:Int) == (pend:Int))=false:=by rw [beq_eq_false_iff_ne];omega
 have g2:(p == pend)=false:=by rw [beq_eq_false_iff_ne];exact hpp
 obtain ⟨o,ho1,ho2⟩:∃ o,zM E.f E.hs p=o∧∀ h,o=some h→h<E.hs.length∧isSev (hkind E.hs h)=false:=by
  refine ⟨_,rfl,fun h e=>⟨zDf E.f E.hs e,?_⟩⟩
  unfold sevOf at hsv
  rw [e] at hsv
  simp only [] at hsv
  split at hsv
  ·cases hsv
  ·rename_i hx;simpa using hx
 rw [ho1] at C1
 have HO2:=Hd ho2
 have hsz:=zAr w E.g p pend i iend (.func (.func kf) #[] kcap)
 have HSZ:=Hd hsz
 obtain ⟨b0,b1,b2,b3,b4,b5⟩:=hbx
 have k0:=b0.c
 have k1:=b1.c
 have k2:=b2.c
 have k3:=b3.c
 have k4:=b4.c
 have k5:=b5.c
 have HBX:RowKit.Hid (∀ m,KeptX E w ((boxed w E.g p pend i iend (.func (.func kf) #[] kcap)).drewN m)):=Hd fun m=>(KeptX.of_below HB.out).trans (KeptX.drewN E _ m)
 clear hi ht hJ hM hn hpp hsv hfw hlw hJ' hle hgf ho1 ho2 hsz b0 b1 b2 b3 b4 b5
 cases o with
 | none =>
  by_cases hii:i<iend
  ·have hil:(i:Int)<iend:=by omega
   have CP:=Hd (fun m=>CP.out _ (KeptX.drewN E (boxed w E.g p pend i iend (.func (.func kf) #[] kcap)) m) (HI.out.drewN m) hii)
   rw [if_pos hii] at HQ
   clear hii
   go_enter Tryz.func119,Tryz.ntmps119
   go_wp2_with fail
   refine C1.out.mono ?_
   intro e w1 h1
   unfold holePost at h1
   obtain ⟨rfl,m,rfl⟩:=h1
   unfold holeZ
   go_wp2_with fail
   refine (C3.out _).mono ?_
   rintro e w2 ⟨rfl,rfl⟩
   go_wp2_with fail
   refine (CP.out m).mono ?_
   intro e w6 h6
   obtain ⟨v,rfl⟩:=h6.bool
   have HX:=Hd (HQ.out _ _ (h6.from (HBX.out m)))
   clear h6
   go_wp2_with fail
   exact HX.out
  ·have hil:¬ (i:Int)<iend:=by omega
   have HX:=Hd (fun m=>HQ.out _ _ (by rw [if_neg hii];exact seekPost.no rfl (HBX.out m) (HI.out.drewN m)))
   clear hii
   go_enter Tryz.func119,Tryz.ntmps119
   go_wp2_with fail
   refine C1.out.mono ?_
   intro e w1 h1
   unfold holePost at h1
   obtain ⟨rfl,m,rfl⟩:=h1
   unfold holeZ
   go_wp2_with fail
   refine (C3.out _).mono ?_
   rintro e w2 ⟨rfl,rfl⟩
   go_wp2_with fail
   exact HX.out m
 | some h =>
  obtain ⟨hh,hsv⟩:=HO2.out h rfl
  have hh0:(0:Int)≤(h:Int):=by omega
  by_cases hii:i<iend
  ·have hil:(i:Int)<iend:=by omega
   have CP:=Hd (fun m=>CP.out _ (KeptX.drewN E (boxed w E.g p pend i iend (.func (.func kf) #[] kcap)) m) (HI.out.drewN m) hii)
   rw [if_pos hii] at HQ
   clear hii
   go_enter Tryz.func119,Tryz.ntmps119
   go_wp2_with fail
   refine C1.out.mono ?_
   intro e w1 h1
   unfold holePost at h1
   obtain ⟨rfl,m,rfl⟩:=h1
   unfold holeZ
   go_wp2_with fail
   refine (C2.out _ (KeptX.drewN E _ m) h hh).mono ?_
   rw [hsv]
   rintro e w2 ⟨rfl,rfl⟩
   go_wp2_with fail
   refine (CP.out m).mono ?_
   intro e w6 h6
   obtain ⟨v,rfl⟩:=h6.bool
   have HX:=Hd (HQ.out _ _ (h6.from (HBX.out m)))
   clear h6
   go_wp2_with fail
   exact HX.out
  ·have hil:¬ (i:Int)<iend:=by omega
   have HX:=Hd (fun m=>HQ.out _ _ (by rw [if_neg hii];exact seekPost.no rfl (HBX.out m) (HI.out.drewN m)))
   clear hii
   go_enter Tryz.func119,Tryz.ntmps119
   go_wp2_with fail
   refine C1.out.mono ?_
   intro e w1 h1
   unfold holePost at h1
   obtain ⟨rfl,m,rfl⟩:=h1
   unfold holeZ
   go_wp2_with fail
   refine (C2.out _ (KeptX.drewN E _ m) h hh).mono ?_
   rw [hsv]
   rintro e w2 ⟨rfl,rfl⟩
   go_wp2_with fail
   exact HX.out m
end Go.Proofs.YtfalelkfhandfaaGreatDoor
namespace Go.Proofs.YtfalelkfhandfaaGreatDoor
set_option linter.all false
attribute [local irreducible] Calls
open Go.RowKit

theorem zFn (w:World) (v:Value) (T:TypeId):(w.alloc (.cells #[v] T)).frozen? ⟨w.heap.size,0,none⟩=false:=by
 have hn:(w.alloc (.cells #[v] T)).heap[w.heap.size]?=some (.cells #[v] T (0,0)):=heap_alloc_new _ _
 unfold World.frozen?
 rw [hn]
 simp
def boxInt (v:Value) (w:World):Int:=match v with
 | .pointer (some a)=>(match w.cell? a with
  | some u=>intOf u
  | none=>0)
 | _=>0
def sevRel (E:SkE) (σ:MSt) (W0:World) (i iend:Nat) (g:Nat→Option MSt) (R:Option MSt) (pv:Value) (wr:World):Prop :=
 ∃ bt tq m fu:Nat,pv=.pointer (some ⟨bt,0,none⟩)∧BoxAt E wr bt (.int .i64 (tq:Int))∧wr.frozen? ⟨bt,0,none⟩=false∧KeptX E W0 wr∧SkIn E σ wr∧advT E.l m i iend=some tq∧iend-tq<fu∧sLoop E.l g fu tq iend=R
set_option maxRecDepth 100000 in
set_option maxHeartbeats 16000000 in
theorem zLo (E:SkE) (ok:SkOK E) (n:Nat) (IHP:PartC E n) (IHK:KidsC E n) (w:World) (σ:MSt) (p pend i iend:Nat) (K:MSt→Option MSt) (tv:Value) (J M:Nat) (hi:SkIn E σ w) (hpe:pend≤E.f.length) (hJ:advT E.f J p pend=some pend) (hie:iend≤E.l.length) (hM:advT E.l M i iend=some iend) (hn:2*(pend-p)+1≤n+1) (ht:ThenOK E K tv w) (hpp:p≠pend) (h:Nat) (hsv:sevOf E.f E.hs p=some h) :
  Calls Tryz.prog 119 #[.pointer (some ⟨E.g,0,none⟩),.int .i64 (p:Int),.int .i64 (pend:Int),.int .i64 (i:Int),.int .i64 (iend:Int),tv] w (seekPost E (sKids E.f E.l E.hs (n+1) p pend i iend K σ) σ w):=by
 have hsk:sKids E.f E.l E.hs (n+1) p pend i iend K σ=sLoop E.l (fun tq=>(bindS E.l σ h i tq).bind (sKids E.f E.l E.hs n (zA E.f p) pend tq iend K)) (E.l.length+1) i iend:=by rw [sKids,if_neg hpp,hsv]
 rw [hsk]
 obtain ⟨Q,hQ⟩:∃ Q,seekPost E (sLoop E.l (fun tq=>(bindS E.l σ h i tq).bind (sKids E.f E.l E.hs n (zA E.f p) pend tq iend K)) (E.l.length+1) i iend) σ w=Q:=⟨_,rfl⟩
 have HQ:RowKit.Hid (∀ e w',seekPost E (sLoop E.l (fun tq=>(bindS E.l σ h i tq).bind (sKids E.f E.l E.hs n (zA E.f p) pend tq iend K)) (E.l.length+1) i iend) σ w e w'→Q e w'):=Hd fun e w' h=>by rw [← hQ];exact h
 rw [hQ]
 clear hQ hsk
 have ht':=ht
 obtain ⟨kf,kcap,rfl,_,_⟩:=ht'
 have hfw:=zI ok.hf.well
 have hlw:=zI ok.hl
 obtain ⟨hplt,J',_,hJ'⟩:=yR hJ hpp
 have hle:=yZ hfw _ _ _ _ hpe hJ'
 have hgf:=zJ hfw (show p<E.f.length by omega)
 have HB:RowKit.Hid (Below w.heap.size w (boxed w E.g p pend i iend (.func (.func kf) #[] kcap))):=Hd (jJ _ _ _ _ _ _ _)
 have hbx:=zHk hi p pend i iend (.func (.func kf) #[] kcap) hi.fresh
 have HI:=Hd (hi.below (jJ w E.g p pend i iend (.func (.func kf) #[] kcap)))
 have C1:=Hd (zDi E ok _ HI.out.st.now p (by omega))
 have C2:=Hd (fun W (hk:KeptX E (boxed w E.g p pend i iend (.func (.func kf) #[] kcap)) W) h (hh:h<E.hs.length)=>gV E W ((HI.out.st.keep hk).now) ok.hn h hh)
 have hmf:∀ (fn:Fn) (first cap:Array Value) (w:World),(Instr.makeFunc fn first cap).run Tryz.prog w=.ok (.func fn first cap) w:=fun _ _ _ _=>rfl
 have g1:((p:Int) == (pend:Int))=false:=by rw [beq_eq_false_iff_ne];omega
 have g2:(p == pend)=false:=by rw [beq_eq_false_iff_ne];exact hpp
 obtain ⟨hsev,ho1⟩:=vV E.f E.hs hsv
 have hh:=zDf E.f E.hs ho1
 rw [ho1] at C1
 have hh0:(0:Int)≤(h:Int):=by omega
 have hsz:=zAr w E.g p pend i iend (.func (.func kf) #[] kcap)
 have HSZ:=Hd hsz
 obtain ⟨b0,b1,b2,b3,b4,b5⟩:=hbx
 have k0:=b0.c
 have k1:=b1.c
 have k2:=b2.c
 have k3:=b3.c
 have k4:=b4.c
 have k5:=b5.c
 have HBX:RowKit.Hid (∀ m,KeptX E w ((boxed w E.g p pend i iend (.func (.func kf) #[] kcap)).drewN m)):=Hd fun m=>(KeptX.of_below HB.out).trans (KeptX.drewN E _ m)
 have HM:=Hd hM
 have HBB:=Hd (show BoxAt E (boxed w E.g p pend i iend (.func (.func kf) #[] kcap)) w.heap.size (.pointer (some ⟨E.g,0,none⟩))∧BoxAt E (boxed w E.g p pend i iend (.func (.func kf) #[] kcap)) (w.heap.size+1) (.int .i64 (p:Int))∧BoxAt E (boxed w E.g p pend i iend (.func (.func kf) #[] kcap)) (w.heap.size+2) (.int .i64 (pend:Int))∧BoxAt E (boxed w E.g p pend i iend (.func (.func kf) #[] kcap)) (w.heap.size+3) (.int .i64 (i:Int))∧BoxAt E (boxed w E.g p pend i iend (.func (.func kf) #[] kcap)) (w.heap.size+4) (.int .i64 (iend:Int))∧BoxAt E (boxed w E.g p pend i iend (.func (.func kf) #[] kcap)) (w.heap.size+5) (.func (.func kf) #[] kcap) from ⟨b0,b1,b2,b3,b4,b5⟩)
 have CB:=Hd (fun W (hk:KeptX E (boxed w E.g p pend i iend (.func (.func kf) #[] kcap)) W) (hs:SkIn E σ W) (bt tq m:Nat) (hbt:BoxAt E W bt (.int .i64 (tq:Int))) (hto:advT E.l m i iend=some tq) =>
  zOn E ok W σ hs h hh i tq (by have:=yZ hlw _ _ _ _ hie hto;omega) (by have:=(vI hlw hie hM hto).2.1;omega) _ _ (zUc E ok n IHK W hs.st p pend tq iend K (.func (.func kf) #[] kcap) (ht.keep ((KeptX.of_below HB.out).trans hk)) _ _ _ _ _ _ (b0.keep hk) (b1.keep hk) (b2.keep hk) hbt (b4.keep hk) (b5.keep hk) (by omega) J' (M-m) hpe hJ' hie (vI hlw hie hM hto).2.2 (by omega)))
 have HLW:=Hd hlw
 have hiel:(iend:Int)≤E.l.length:=by omega
 have hll:=ok.ll
 have hile:=yZ hlw _ _ _ _ hie hM
 clear hi ht hJ hM hn hpp hsv hfw hlw hJ' hle hgf ho1 hsz b0 b1 b2 b3 b4 b5
 go_enter Tryz.func119,Tryz.ntmps119
 go_wp2_with fail
 refine C1.out.mono ?_
 intro e w1 h1
 unfold holePost at h1
 obtain ⟨rfl,m,rfl⟩:=h1
 unfold holeZ
 go_wp2_with fail
 refine (C2.out _ (KeptX.drewN E _ m) h hh).mono ?_
 rw [hsev]
 rintro e w2 ⟨rfl,rfl⟩
 have j0:((boxed w E.g p pend i iend (.func (.func kf) #[] kcap)).drewN m).cell? ⟨w.heap.size,0,none⟩=some (.pointer (some ⟨E.g,0,none⟩)):=k0
 have j1:((boxed w E.g p pend i iend (.func (.func kf) #[] kcap)).drewN m).cell? ⟨w.heap.size+1,0,none⟩=some (.int .i64 (p:Int)):=k1
 have j2:((boxed w E.g p pend i iend (.func (.func kf) #[] kcap)).drewN m).cell? ⟨w.heap.size+2,0,none⟩=some (.int .i64 (pend:Int)):=k2
 have j3:((boxed w E.g p pend i iend (.func (.func kf) #[] kcap)).drewN m).cell? ⟨w.heap.size+3,0,none⟩=some (.int .i64 (i:Int)):=k3
 have j4:((boxed w E.g p pend i iend (.func (.func kf) #[] kcap)).drewN m).cell? ⟨w.heap.size+4,0,none⟩=some (.int .i64 (iend:Int)):=k4
 have j5:((boxed w E.g p pend i iend (.func (.func kf) #[] kcap)).drewN m).cell? ⟨w.heap.size+5,0,none⟩=some (.func (.func kf) #[] kcap):=k5
 have HKW:=Hd (KeptX.drewN E (boxed w E.g p pend i iend (.func (.func kf) #[] kcap)) m)
 have HIW:=Hd (HI.out.drewN m)
 have HXW:=Hd (HBX.out m)
 have HSW:RowKit.Hid (((boxed w E.g p pend i iend (.func (.func kf) #[] kcap)).drewN m).heap.size=w.heap.size+6):=Hd HSZ.out
 clear k0 k1 k2 k3 k4 k5 C1 C2
 generalize (boxed w E.g p pend i iend (.func (.func kf) #[] kcap)).drewN m=W1 at *
 have HBW:=Hd (show BoxAt E W1 w.heap.size (.pointer (some ⟨E.g,0,none⟩))∧BoxAt E W1 (w.heap.size+1) (.int .i64 (p:Int))∧BoxAt E W1 (w.heap.size+2) (.int .i64 (pend:Int))∧BoxAt E W1 (w.heap.size+3) (.int .i64 (i:Int))∧BoxAt E W1 (w.heap.size+4) (.int .i64 (iend:Int))∧BoxAt E W1 (w.heap.size+5) (.func (.func kf) #[] kcap) from ⟨HBB.out.1.keep HKW.out,HBB.out.2.1.keep HKW.out,HBB.out.2.2.1.keep HKW.out,HBB.out.2.2.2.1.keep HKW.out,HBB.out.2.2.2.2.1.keep HKW.out,HBB.out.2.2.2.2.2.keep HKW.out⟩)
 have HAT:RowKit.Hid (sevRel E σ W1 i iend (fun tq=>(bindS E.l σ h i tq).bind (sKids E.f E.l E.hs n (zA E.f p) pend tq iend K)) (sLoop E.l (fun tq=>(bindS E.l σ h i tq).bind (sKids E.f E.l E.hs n (zA E.f p) pend tq iend K)) (E.l.length+1) i iend) (.pointer (some ⟨W1.heap.size,0,none⟩)) (W1.alloc (.cells #[.int .i64 (i:Int)] 3))):=Hd
  ⟨W1.heap.size,i,0,E.l.length+1,rfl,⟨World.cell?_alloc_at _ _ _ _ rfl,by simp,(HIW.out.fresh _ (Nat.le_refl _)).1,(HIW.out.fresh _ (Nat.le_refl _)).2⟩,zFn W1 _ _,KeptX.alloc E W1 _,HIW.out.below ((Below.refl _ _).alloc (Nat.le_refl _) _),rfl,by omega,rfl⟩
 generalize hR:sLoop E.l (fun tq=>(bindS E.l σ h i tq).bind (sKids E.f E.l E.hs n (zA E.f p) pend tq iend K)) (E.l.length+1) i iend=R at *
 clear hR
 go_wp2_with fail
 clear j0 j1 j2 j3 j4 j5
 go_loopw [14] (fun pv wr=>sevRel E σ W1 i iend (fun tq=>(bindS E.l σ h i tq).bind (sKids E.f E.l E.hs n (zA E.f p) pend tq iend K)) R pv wr) (fun pv wr=>(iend-boxInt pv wr).toNat)
 case atStart=>exact HAT.out
 case round =>
  obtain ⟨bt,tq,m2,fu,rfl,hbox,hfz,hkx,hsk,hadv,hfu,hR⟩:=hrel
  obtain ⟨fu,rfl⟩:∃ f',fu=f'+1:=⟨fu-1,by omega⟩
  rw [sLoop] at hR
  have hkw:=HKW.out.trans hkx
  have CBR:=Hd (CB.out wr hkw hsk bt tq m2 hbox hadv)
  have c0:=(HBW.out.1.keep hkx).c
  have c1:=(HBW.out.2.1.keep hkx).c
  have c2:=(HBW.out.2.2.1.keep hkx).c
  have c3:=(HBW.out.2.2.2.1.keep hkx).c
  have c4:=(HBW.out.2.2.2.2.1.keep hkx).c
  have c5:=(HBW.out.2.2.2.2.2.keep hkx).c
  have ct:=hbox.c
  have HBOX:=Hd hbox
  have HKX:=Hd hkx
  have HFZ:=Hd hfz
  have HADV:=Hd hadv
  have HMS:RowKit.Hid (tq≤iend∧i≤tq):=Hd ⟨(vI HLW.out hie HM.out hadv).2.1,by have:=yZ HLW.out _ _ _ _ hie hadv;omega⟩
  have HRR:=Hd hR
  clear hbox hfz hkx hsk hadv hR hkw HAT
  go_wp2_with fail
  refine CBR.out.mono ?_
  intro e w6 h6
  obtain ⟨y,rfl⟩:=h6.bool
  have HK6:=Hd h6.out.1
  have HO6:=Hd h6.out.2
  clear h6 CBR
  cases y with
  | true =>
   have hx:Q (.returned (.bool true)) w6:=by
    rcases HO6.out with ⟨τ,k1,_,k3⟩ | ⟨_,k2,_⟩
    ·have hr:=HRR.out
     rw [k1] at hr
     exact HQ.out _ _ (seekPost.yes hr.symm (HXW.out.trans (HKX.out.trans HK6.out)) k3)
    ·cases k2
   have HX:=Hd hx
   clear hx HO6 c0 c1 c2 c3 c4 c5 ct
   go_wp2_with fail
   exact HX.out
  | false =>
   have hno:(bindS E.l σ h i tq).bind (sKids E.f E.l E.hs n (zA E.f p) pend tq iend K)=none∧SkIn E σ w6:=by
    rcases HO6.out with ⟨τ,_,k2,_⟩ | ⟨k1,_,k3⟩
    ·cases k2
    ·exact ⟨k1,k3⟩
   have hr:=HRR.out
   rw [hno.1] at hr
   simp only [] at hr
   have HRR:=Hd hr
   have HI6:=Hd hno.2
   clear c0 c1 c2 c3 c4 c5 ct hno hr HO6
   have c0:=(HBW.out.1.keep (HKX.out.trans HK6.out)).c
   have c4:=(HBW.out.2.2.2.2.1.keep (HKX.out.trans HK6.out)).c
   have ct:=(HBOX.out.keep HK6.out).c
   by_cases hte:tq=iend
   ·have g3:((tq:Int) == (iend:Int))=true:=by rw [beq_iff_eq];omega
    have g4:(tq == iend)=true:=by rw [beq_iff_eq];exact hte
    have hr:=HRR.out
    rw [if_pos hte] at hr
    have HX:=Hd (HQ.out _ _ (seekPost.no hr.symm (HXW.out.trans (HKX.out.trans HK6.out)) HI6.out))
    clear hte hr
    go_wp2_with fail
    exact HX.out
   ·have g3:((tq:Int) == (iend:Int))=false:=by rw [beq_eq_false_iff_ne];omega
    have g4:(tq == iend)=false:=by rw [beq_eq_false_iff_ne];exact hte
    have hr:=HRR.out
    rw [if_neg hte] at hr
    have HRR:=Hd hr
    have hms:=HMS.out
    obtain ⟨eb,eo,ec,hev,hec,hep⟩:=HI6.out.st.ends (L:=E.l) (v:=E.ve) (fun w' hk=>(HI6.out.st w' hk).e) (by omega)
    have hge:=zJ HLW.out (show tq<E.l.length by omega)
    have hadv2:advT E.l (m2+1) i iend=some (zA E.l tq):=by
     rw [kS,HADV.out,Option.bind_some,advT,if_pos (by omega),advT]
    have HADV2:=Hd hadv2
    have HGE:=Hd hge
    have HLE:=Hd (vI HLW.out hie HM.out hadv2).2.1
    have HS:RowKit.Hid (∀ W,KeptX E w6 W→(fun W=>W.cell? ⟨w.heap.size,0,none⟩=some (.pointer (some ⟨E.g,0,none⟩))∧W.cell? ⟨E.g,3,none⟩=some (.slice (some ⟨eb,eo,none⟩) E.l.length ec)∧W.cell? ⟨eb,eo+tq,none⟩=some (.int .i64 (zA E.l tq:Int))∧RowKit.Hid (KeptX E w6 W)) W):=Hd fun W hk=>by
     have hc:=(HI6.out.st W hk).cells
     exact ⟨(HBW.out.1.keep ((HKX.out.trans HK6.out).trans hk)).c,by rw [hc.2.2.2.1,hev],hep W hk tq (by omega),Hd hk⟩
    have htl:(tq:Int)<E.l.length:=by omega
    have ht0:(0:Int)≤(tq:Int):=by omega
    clear hte hr hms hev hep hge hadv2
    generalize zA E.l tq=zl at *
    go_upto_region 7 with (fail)
    have HB7:RowKit.Hid (Below w6.heap.size w6 (w6.alloc (.cells #[.int .i64 (tq:Int)] 3))):=Hd ((Below.refl _ _).alloc (Nat.le_refl _) _)
    have ct7:(w6.alloc (.cells #[.int .i64 (tq:Int)] 3)).cell? ⟨w6.heap.size,0,none⟩=some (.int .i64 (tq:Int)):=World.cell?_alloc_at _ _ _ _ rfl
    have cz7:(w6.alloc (.cells #[.int .i64 (tq:Int)] 3)).frozen? ⟨w6.heap.size,0,none⟩=false:=zFn _ _ _
    have hz7:w6.heap.size<(w6.alloc (.cells #[.int .i64 (tq:Int)] 3)).heap.size:=by simp
    have HFR:=Hd (HI6.out.fresh w6.heap.size (Nat.le_refl _))
    generalize w6.alloc (.cells #[.int .i64 (tq:Int)] 3)=W7 at *
    generalize hnb:w6.heap.size=nb at *
    have HNB:=Hd hnb
    have HZ7:=Hd hz7
    clear hnb hz7 c0 c4 ct
    have HK7:RowKit.Hid (KeptX E w6 W7):=Hd (KeptX.of_below (HNB.out ▸ HB7.out))
    have HBS:RowKit.Hid (∀ W,Below nb w6 W→KeptX E w6 W):=Hd fun W hb=>KeptX.of_below (HNB.out ▸ hb)
    refine wp_region_noPanic ?_
    refine wp_region_held_drew (S:=fun W=>W.cell? ⟨w.heap.size,0,none⟩=some (.pointer (some ⟨E.g,0,none⟩))∧W.cell? ⟨E.g,3,none⟩=some (.slice (some ⟨eb,eo,none⟩) E.l.length ec)∧W.cell? ⟨eb,eo+tq,none⟩=some (.int .i64 (zl:Int))∧RowKit.Hid (KeptX E w6 W)) (by kernel_rfl) (HS.out _ (HBS.out _ HB7.out.drew)) (fun hHeldA=>?_)
    refine wpAnyH_take (i:=0) (oi:=_) (v:=?vA0) rfl (by kernel_rfl) (by kernel_rfl) (by kernel_rfl) (fun _ _ _ h=>h) (Or.inl ⟨by kernel_rfl,?hyA0⟩) hHeldA ?restA0
    case hyA0=>intro w hSw;(try dsimp only at hSw);go_simp;(try with_reducible rfl)
    (try simp only [Act.put,List.setIfInBounds_toArray,List.set_cons_zero,List.set_cons_succ])
    refine wpAnyH_take (i:=1) (oi:=_) (v:=?vA1) rfl (by kernel_rfl) (by kernel_rfl) (by kernel_rfl) (fun _ _ _ h=>h) (Or.inl ⟨by kernel_rfl,?hyA1⟩) hHeldA ?restA1
    case hyA1=>intro w hSw;(try dsimp only at hSw);go_simp;(try with_reducible rfl)
    (try simp only [Act.put,List.setIfInBounds_toArray,List.set_cons_zero,List.set_cons_succ])
    refine wpAnyH_take (i:=2) (oi:=_) (v:=?vA2) rfl (by kernel_rfl) (by kernel_rfl) (by kernel_rfl) (fun _ _ _ h=>h) (Or.inl ⟨by kernel_rfl,?hyA2⟩) hHeldA ?restA2
    case hyA2=>intro w hSw;(try dsimp only at hSw);go_simp;(try with_reducible rfl)
    (try simp only [Act.put,List.setIfInBounds_toArray,List.set_cons_zero,List.set_cons_succ])
    refine wpAnyH_take (i:=3) (oi:=_) (v:=?vA3) rfl (by kernel_rfl) (by kernel_rfl) (by kernel_rfl) (fun _ _ _ h=>h) (Or.inl ⟨by kernel_rfl,?hyA3⟩) hHeldA ?restA3
    case hyA3=>intro w hSw;(try dsimp only at hSw);go_simp;(try with_reducible rfl)
    (try simp only [Act.put,List.setIfInBounds_toArray,List.set_cons_zero,List.set_cons_succ])
    refine wpAnyH_ready (rs:=[4]) (by kernel_rfl) (by simp) ?_
    refine AllReadyH.cons (o:=_) rfl (fun K hK=>?_) AllReadyH.nil
    go_simp
    refine hK.out _ _ hHeldA (fun hHeldA_1=>?_)
    clear hK K hHeldA
    (try simp only [Act.put,List.setIfInBounds_toArray,List.set_cons_zero,List.set_cons_succ])
    refine wpAnyH_take (i:=5) (oi:=_) (v:=?vA5) rfl (by kernel_rfl) (by kernel_rfl) (by kernel_rfl) (fun _ _ _ h=>h) (Or.inl ⟨by kernel_rfl,?hyA5⟩) hHeldA_1 ?restA5
    case hyA5=>intro w hSw;(try dsimp only at hSw);go_simp;(try with_reducible rfl)
    (try simp only [Act.put,List.setIfInBounds_toArray,List.set_cons_zero,List.set_cons_succ])
    refine wpAnyH_take (i:=6) (oi:=_) (v:=?vA6) rfl (by kernel_rfl) (by kernel_rfl) (by kernel_rfl) (fun _ _ _ h=>h) (Or.inl ⟨by kernel_rfl,?hyA6⟩) hHeldA_1 ?restA6
    case hyA6=>intro w hSw;(try dsimp only at hSw);go_simp;(try with_reducible rfl)
    (try simp only [Act.put,List.setIfInBounds_toArray,List.set_cons_zero,List.set_cons_succ])
    refine wpAnyH_ready (rs:=[7]) (by kernel_rfl) (by simp) ?_
    refine AllReadyH.cons (o:=_) rfl (fun K hK=>?_) AllReadyH.nil
    go_simp
    refine hK.out _ _ (HS.out _ (HBS.out _ (HB7.out.setCell (p:=⟨nb,0,none⟩) (Nat.le_refl _) _).drew)) (fun hHeldA_2=>?_)
    clear hK K hHeldA_1
    (try simp only [Act.put,List.setIfInBounds_toArray,List.set_cons_zero,List.set_cons_succ])
    refine wpAnyH_done (by kernel_rfl) ?_ _
    refine NoPanic.normal ?_
    have HBN:RowKit.Hid (Below nb w6 (W7.setCell ⟨nb,0,none⟩ (.int .i64 (zl:Int))).drew):=Hd (HB7.out.setCell (p:=⟨nb,0,none⟩) (Nat.le_refl _) _).drew
    have hcell:(W7.setCell ⟨nb,0,none⟩ (.int .i64 (zl:Int))).cell? ⟨nb,0,none⟩=some (.int .i64 (zl:Int)):=World.cell?_setCell_same _ _ _ ct7
    have HNX:RowKit.Hid (sevRel E σ W1 i iend (fun tq=>(bindS E.l σ h i tq).bind (sKids E.f E.l E.hs n (zA E.f p) pend tq iend K)) R (.pointer (some ⟨nb,0,none⟩)) (W7.setCell ⟨nb,0,none⟩ (.int .i64 (zl:Int))).drew):=Hd
     ⟨nb,zl,m2+1,fu,rfl,⟨hcell,by simp;exact HZ7.out,HFR.out.1,HFR.out.2⟩,by simp;exact cz7,(HKX.out.trans HK6.out).trans (HBS.out _ HBN.out),HI6.out.below (HNB.out ▸ HBN.out),HADV2.out,by have:=HGE.out;have:=HLE.out;omega,HRR.out⟩
    have HMZ:RowKit.Hid (iend-boxInt (.pointer (some ⟨nb,0,none⟩)) (W7.setCell ⟨nb,0,none⟩ (.int .i64 (zl:Int))).drew<(iend:Int)-tq∧(tq:Int)<iend):=Hd (by
     have h1:boxInt (.pointer (some ⟨nb,0,none⟩)) (W7.setCell ⟨nb,0,none⟩ (.int .i64 (zl:Int))).drew=(zl:Int):=by
      show (match (W7.setCell ⟨nb,0,none⟩ (.int .i64 (zl:Int))).cell? ⟨nb,0,none⟩ with
       | some u=>intOf u
       | none=>0)=_
      rw [hcell];rfl
     rw [h1]
     have:=HGE.out;have:=HLE.out
     constructor <;> omega)
    have HMB:RowKit.Hid (boxInt (.pointer (some ⟨bt,0,none⟩)) wr=(tq:Int)):=Hd (by
     show (match wr.cell? ⟨bt,0,none⟩ with
       | some u=>intOf u
       | none=>0)=_
     rw [HBOX.out.c];rfl)
    go_wp2_with fail
    refine ⟨HNX.out,?_⟩
    have h1:=HMZ.out
    rw [HMB.out]
    omega
end Go.Proofs.YtfalelkfhandfaaGreatDoor
namespace Go.Proofs.YtfalelkfhandfaaGreatDoor
set_option linter.all false
open Go.RowKit

theorem zUe (E:SkE) (ok:SkOK E) (h7:∀ x∈E.hs,1≤x.2∧x.2≤7):∀ n,PartC E n∧KidsC E n
 | 0=>⟨(fun w σ p i K tv hi hp hil hn ht=>by have:=(zJ (zI ok.hf.well) hp).1;omega),(fun w σ p pend i iend K tv J M hi hpe hJ hie hM hn ht=>by omega)⟩
 | n+1=>by
  obtain ⟨h1,h2⟩:=zUe E ok h7 n
  constructor
  ·intro w σ p i K tv hi hp hil hn ht
   cases ho:oneOf E.f E.hs p with
   | some h=>exact zLk E ok h7 n w σ p i K tv hi hp hil ht h ho
   | none=>exact zIx E ok n h2 w σ p i K tv hi hp hil hn ht ho
  ·intro w σ p pend i iend K tv J M hi hpe hJ hie hM hn ht
   by_cases hpp:p=pend
   ·subst hpp
    exact zLl E ok n w σ p i iend K tv hi hpe hie (by have:=yZ (zI ok.hl) _ _ _ _ hie hM;omega) ht
   ·cases hs:sevOf E.f E.hs p with
    | none=>exact zLn E ok n h1 h2 w σ p pend i iend K tv J M hi hpe hJ hie hM hn ht hpp hs
    | some h=>exact zLo E ok n h1 h2 w σ p pend i iend K tv J M hi hpe hJ hie hM hn ht hpp h hs
theorem zWx (E:SkE) (ok:SkOK E) (h7:∀ x∈E.hs,1≤x.2∧x.2≤7) (w:World) (i:Nat) (tv:Value) (hi:SkIn E (startS E.hs) w) (hil:i<E.l.length) (ht:ThenOK E some tv w) :
  Calls Tryz.prog 97 #[.pointer (some ⟨E.g,0,none⟩),.int .i64 0,.int .i64 (i:Int),tv] w (seekPost E ((aPart E.f E.l E.hs (fuelZ E.f) 0 i (startS E.hs)).head?) (startS E.hs) w):=by
 have h0:=yD ok.hf.well
 have:=(zUe E ok h7 (fuelZ E.f)).1 w (startS E.hs) 0 i some tv hi h0.1 hil (by rw [h0.2];unfold fuelZ;omega) ht
 rw [(zWf E.f E.l E.hs (fuelZ E.f)).1] at this
 have e:∀ (l:List MSt),l.findSome? some=l.head?:=fun l=>by cases l <;> simp [List.findSome?_cons]
 rw [e] at this
 exact this
end Go.Proofs.YtfalelkfhandfaaGreatDoor
namespace Go.Proofs.YtfalelkfhandfaaGreatDoor
set_option linter.all false
open Go.RowKit

theorem jI {w w':World} {B:Nat} {e:TypeId} {size n:Nat} {v:Value} {xs:List Value} (h:w.ownsRow B e size v n xs) (hg:w.grownBy w' v.ownBlock) {g:Nat} {cs:Array Value} {t:TypeId} {fr:Nat×Nat} (hb:w.heap[g]?=some (.cells cs t fr)) (ht:t≠e) :
  w'.heap[g]?=some (.cells cs t fr):=by
 rw [hg.block g (zD hb) ?_,hb]
 intro e1
 rcases h.2 with ⟨rfl,_⟩ | ⟨k,cap,cur,rfl,_,hh,_⟩
 ·simp [Value.ownBlock] at e1
 ·simp [Value.ownBlock] at e1
  subst e1
  rw [hb] at hh
  cases hh
  exact ht rfl
theorem zGf {w w':World} {B B2:Nat} {e e2:TypeId} {size n size2 n2:Nat} {v v2:Value} {xs xs2:List Value} (h:w.ownsRow B e size v n xs) (hg:w.grownBy w' v.ownBlock) (h2:w.ownsRow B2 e2 size2 v2 n2 xs2) (ht:e2≠e):w'.ownsRow B2 e2 size2 v2 n2 xs2:=by
 obtain ⟨g1,g2⟩:=h2
 refine ⟨g1,?_⟩
 rcases g2 with g2 | ⟨k,cap,cur,hv,hk,hh,r⟩
 ·exact Or.inl g2
 ·exact Or.inr ⟨k,cap,cur,hv,hk,jI h hg hh ht,r⟩
theorem Row.same {w w':World} {v:Value} {n sz:Nat} {cs:List Value} (h:Row w v n sz cs) (hk:∀ b,v.ownBlock=some b→b<w.heap.size→b<w'.heap.size∧w'.heap[b]?=w.heap[b]?):Row w' v n sz cs:=by
 obtain ⟨h1,a,cap,hv,hc,hz,h2⟩:=h
 refine ⟨h1,a,cap,hv,hc,hz,fun hn=>?_⟩
 obtain ⟨b,off,ha,hlt,hcell⟩:=h2 hn
 subst ha
 obtain ⟨k1,k2⟩:=hk b (by rw [hv];rfl) hlt
 refine ⟨b,off,rfl,k1,fun i hi=>?_⟩
 rw [← hcell i hi]
 simp only [World.cell?,k2]
theorem Row.no_map {w:World} {v:Value} {n sz:Nat} {cs:List Value} (h:Row w v n sz cs) (hn:0<n) (hsz:0<sz) {bm k:Nat} {M:ByteArray→Option Int} (hm:MapIs w bm k M):∀ b,v.ownBlock=some b→b≠bm:=by
 obtain ⟨h1,a,cap,hv,hc,hz,h2⟩:=h
 obtain ⟨b,off,ha,hlt,hcell⟩:=h2 hn
 subst ha
 intro b' hb' e
 rw [hv] at hb'
 obtain rfl:b=b':=by simpa [Value.ownBlock] using hb'
 subst e
 obtain ⟨D,⟨es,clock,hb,_⟩,_⟩:=hm
 have h0:0<cs.length:=by rw [h1];exact Nat.mul_pos hn hsz
 have:=hcell 0 (Nat.mul_pos hn hsz)
 rw [List.getElem?_eq_getElem h0] at this
 simp [World.cell?,hb] at this
theorem World.ownsRow.base_mono {w:World} {B B':Nat} {e:TypeId} {size n:Nat} {v:Value} {xs:List Value} (h:w.ownsRow B e size v n xs) (hb:B'≤B):w.ownsRow B' e size v n xs:=by
 refine ⟨h.1,?_⟩
 rcases h.2 with h2 | ⟨g,cap,cur,hv,hg,r⟩
 ·exact Or.inl h2
 ·exact Or.inr ⟨g,cap,cur,hv,Nat.le_trans hb hg,r⟩
theorem zRk (n:Nat) (h:n<1000000):(Lit.int .i64 (n:Int)).wf=true:=by
 have h1:IntKind.i64.min=-9223372036854775808:=by decide
 have h2:IntKind.i64.max=9223372036854775807:=by decide
 simp only [Lit.wf,h1,h2,Bool.and_eq_true,decide_eq_true_eq]
 omega
def bind0 (h:Hl):Bnd:=(h.1,0,0)
def kindsV (hs:List Hl):List Value:=(kindsI hs).map (Value.int .u8)
theorem zJl (hs:List Hl) (h:Hl):kindsV (hs++[h])=kindsV hs++[.int .u8 (h.2:Int)]:=by simp [kindsV,kindsI]
theorem zJm (hs:List Hl) (h:Hl):bindsV ((hs++[h]).map bind0)=bindsV (hs.map bind0)++[.string h.1,.int .i64 0,.int .i64 0]:=by simp [bindsV,bindV,bind0]
def holeO (h:Hl):Obj:=.cells #[.string h.1,.int .u8 (h.2:Int)] 49 (0,0)
structure AtW (g bm:Nat) (hm hk hb:List Hl) (vf vl vfe ve vk vb:Value) (X:List (Nat×Hl)) (B0:Nat) (w0 W8 W:World):Prop where
 s:W.heap[g]?=some (.cells #[vf,vl,vfe,ve,.map (some bm),vk,vb,.slice none 0 0] 147 (0,0))
 m:MapIs W bm hm.length (holeM hm)
 k:W.ownsRow (g+1) 5 1 vk hk.length (kindsV hk)
 b:W.ownsRow (g+1) 52 3 vb hb.length (bindsV (hb.map bind0))
 old:∀ j,j<g→j≠bm→W.heap[j]?=W8.heap[j]?
 lt:B0≤bm∧bm<g
 below:Below B0 w0 W
 base:g+1≤W.heap.size
 x:∀ p∈X,W.heap[p.1]?=some (holeO p.2)∧g<p.1
theorem AtW.alloc {g bm:Nat} {hm hk hb:List Hl} {vf vl vfe ve vk vb:Value} {X:List (Nat×Hl)} {B0:Nat} {w0 W8 W:World} (h:AtW g bm hm hk hb vf vl vfe ve vk vb X B0 w0 W8 W) (o:Obj):AtW g bm hm hk hb vf vl vfe ve vk vb X B0 w0 W8 (W.alloc o):=by
 have hbs:=h.base
 have hl:=h.lt
 refine ⟨by rw [Below.heap_alloc _ _ _ (by omega)];exact h.s,h.m.same (by rw [Below.heap_alloc _ _ _ (by omega)]),h.k.alloc _,h.b.alloc _,fun j h1 h2=>by rw [Below.heap_alloc _ _ _ (by omega)];exact h.old j h1 h2,h.lt,h.below.alloc (by omega) _,by simp;omega,fun p hp=>?_⟩
 obtain ⟨a,b⟩:=h.x p hp
 exact ⟨by rw [Below.heap_alloc _ _ _ (zD a)];exact a,b⟩
theorem AtW.hole {g bm:Nat} {hm hk hb:List Hl} {vf vl vfe ve vk vb:Value} {X:List (Nat×Hl)} {B0:Nat} {w0 W8 W:World} (h:AtW g bm hm hk hb vf vl vfe ve vk vb X B0 w0 W8 W) (y:Hl):AtW g bm hm hk hb vf vl vfe ve vk vb [(W.heap.size,y)] B0 w0 W8 (W.alloc (holeO y)):=by
 have h1:=h.alloc (holeO y)
 refine ⟨h1.s,h1.m,h1.k,h1.b,h1.old,h1.lt,h1.below,h1.base,fun p hp=>?_⟩
 obtain rfl:p=(W.heap.size,y):=by simpa using hp
 exact ⟨heap_alloc_new _ _,h.base⟩
theorem AtW.noX {g bm:Nat} {hm hk hb:List Hl} {vf vl vfe ve vk vb:Value} {X:List (Nat×Hl)} {B0:Nat} {w0 W8 W:World} (h:AtW g bm hm hk hb vf vl vfe ve vk vb X B0 w0 W8 W):AtW g bm hm hk hb vf vl vfe ve vk vb [] B0 w0 W8 W:=⟨h.s,h.m,h.k,h.b,h.old,h.lt,h.below,h.base,fun p hp=>by cases hp⟩
theorem AtW.drew {g bm:Nat} {hm hk hb:List Hl} {vf vl vfe ve vk vb:Value} {X:List (Nat×Hl)} {B0:Nat} {w0 W8 W:World} (h:AtW g bm hm hk hb vf vl vfe ve vk vb X B0 w0 W8 W):AtW g bm hm hk hb vf vl vfe ve vk vb X B0 w0 W8 W.drew:=⟨h.s,h.m.same rfl,h.k,h.b,h.old,h.lt,h.below.drew,h.base,h.x⟩
theorem AtW.cells {g bm:Nat} {hm hk hb:List Hl} {vf vl vfe ve vk vb:Value} {X:List (Nat×Hl)} {B0:Nat} {w0 W8 W:World} (h:AtW g bm hm hk hb vf vl vfe ve vk vb X B0 w0 W8 W):W.cell? ⟨g,4,none⟩=some (.map (some bm))∧W.cell? ⟨g,5,none⟩=some vk∧W.cell? ⟨g,6,none⟩=some vb∧W.cell? ⟨g,7,none⟩=some (.slice none 0 0)∧∀ j,W.frozen? ⟨g,j,none⟩=false:=by
 simp only [World.cell?,World.frozen?,h.s]
 exact ⟨rfl,rfl,rfl,rfl,fun j=>by simp⟩
theorem AtW.xc {g bm:Nat} {hm hk hb:List Hl} {vf vl vfe ve vk vb:Value} {gh:Nat} {y:Hl} {B0:Nat} {w0 W8 W:World} (h:AtW g bm hm hk hb vf vl vfe ve vk vb [(gh,y)] B0 w0 W8 W):W.cell? ⟨gh,0,none⟩=some (.string y.1)∧W.cell? ⟨gh,1,none⟩=some (.int .u8 (y.2:Int))∧g<gh:=by
 obtain ⟨a,b⟩:=h.x (gh,y) (by simp)
 simp only [] at a b
 simp only [World.cell?,a,holeO]
 exact ⟨rfl,rfl,b⟩
theorem AtW.put {g bm:Nat} {hm hk hb:List Hl} {vf vl vfe ve vk vb:Value} {X:List (Nat×Hl)} {B0:Nat} {w0 W8 W:World} (h:AtW g bm hm hk hb vf vl vfe ve vk vb X B0 w0 W8 W) (y:Hl) (hd:∀ z∈hm,z.1≠y.1) (hn:hm.length<1000000) (hy:y.1.size≤1048576) :
  ∃ w',(Instr.mapUpdate 110 (.map (some bm)) (.string y.1) (.int .i64 (hm.length:Int))).run Tryz.prog W=.ok () w'∧AtW g bm (hm++[y]) hk hb vf vl vfe ve vk vb X B0 w0 W8 w':=by
 obtain ⟨w',hrun,hM,hg⟩:=h.m.put (by unfold maxLen;omega) y.1 (by unfold maxLen;omega) (hm.length:Int) (zRk _ hn)
 rw [zLy hm y hd] at hM
 have hl:=h.lt
 have hbs:=h.base
 have hkeep:∀ j,j<W.heap.size→j≠bm→w'.heap[j]?=W.heap[j]?:=fun j h1 h2=>hg.block j h1 (fun e=>h2 (Option.some.inj e))
 have hown:∀ {e:TypeId} {sz n:Nat} {v:Value} {xs:List Value},W.ownsRow (g+1) e sz v n xs→w'.ownsRow (g+1) e sz v n xs:=fun {e sz n v xs} ho=>by
  refine ho.kept hg ?_
  cases hb:v.ownBlock with
  | none=>exact Or.inl rfl
  | some q =>
   refine Or.inr fun e=>?_
   have h1:=(ho.lt q hb).1
   have h2:=Option.some.inj e
   omega
 refine ⟨w',hrun,⟨by rw [hkeep g (by omega) (by omega)];exact h.s,by rw [List.length_append];exact hM,hown h.k,hown h.b,fun j h1 h2=>by rw [hkeep j (by omega) h2];exact h.old j h1 h2,h.lt,h.below.grown hg (by omega) (fun q e=>by cases e;exact hl.1),Nat.le_trans hbs hg.size,fun p hp=>?_⟩⟩
 obtain ⟨a,b⟩:=h.x p hp
 exact ⟨by rw [hkeep p.1 (zD a) (by omega)];exact a,b⟩
theorem AtW.kind {g bm:Nat} {hm hk hb:List Hl} {vf vl vfe ve vk vb:Value} {X:List (Nat×Hl)} {B0:Nat} {w0 W8 W:World} (h:AtW g bm hm hk hb vf vl vfe ve vk vb X B0 w0 W8 W) (y:Hl) {v':Value} {w':World}
  (ho:w'.ownsRow (g+1) 5 1 v' (hk.length+1) (kindsV hk++[.int .u8 (y.2:Int)])) (hg:W.grownBy w' vk.ownBlock):AtW g bm hm (hk++[y]) hb vf vl vfe ve v' vb X B0 w0 W8 (w'.setCell ⟨g,5,none⟩ v'):=by
 have hl:=h.lt
 have hbs:=h.base
 have hne:∀ j,j≤g→vk.ownBlock≠some j:=fun j hj e=>by have:=(h.k.lt j e).1;omega
 have hkeep:∀ j,j≤g→w'.heap[j]?=W.heap[j]?:=fun j hj=>hg.block j (by omega) (fun e=>hne j hj e.symm)
 have hb':=zGf h.k hg h.b (by decide)
 refine ⟨?_,?_,?_,ownsRow_setCell_other hb' (fun e=>by have:=(hb'.lt g e).1;omega) _,fun j h1 h2=>?_,h.lt,(h.below.grown hg (by omega) (fun q e=>by have:=(h.k.lt q e).1;omega)).setCell (p:=⟨g,5,none⟩) (by show B0≤g;omega) _,by simp;have:=hg.size;omega,fun p hp=>?_⟩
 ·have:=heap_setCell_same w' g 5 _ _ v' (by rw [hkeep g (Nat.le_refl _)];exact h.s)
  exact this
 ·exact h.m.same (by rw [heap_setCell_other _ _ _ _ (show bm≠g by omega),hkeep bm (by omega)])
 ·rw [zJl,List.length_append]
  exact ownsRow_setCell_other ho (fun e=>by have:=(ho.lt g e).1;omega) _
 ·rw [heap_setCell_other _ _ _ _ (show j≠g by omega),hkeep j (by omega)];exact h.old j h1 h2
 ·obtain ⟨a,b⟩:=h.x p hp
  have:=jI h.k hg a (by decide)
  exact ⟨by rw [heap_setCell_other _ _ _ _ (show p.1≠g by omega)];exact this,b⟩
theorem AtW.bind {g bm:Nat} {hm hk hb:List Hl} {vf vl vfe ve vk vb:Value} {X:List (Nat×Hl)} {B0:Nat} {w0 W8 W:World} (h:AtW g bm hm hk hb vf vl vfe ve vk vb X B0 w0 W8 W) (y:Hl) {v':Value} {w':World}
  (ho:w'.ownsRow (g+1) 52 3 v' (hb.length+1) (bindsV (hb.map bind0)++[.string y.1,.int .i64 0,.int .i64 0])) (hg:W.grownBy w' vb.ownBlock):AtW g bm hm hk (hb++[y]) vf vl vfe ve vk v' X B0 w0 W8 (w'.setCell ⟨g,6,none⟩ v'):=by
 have hl:=h.lt
 have hbs:=h.base
 have hne:∀ j,j≤g→vb.ownBlock≠some j:=fun j hj e=>by have:=(h.b.lt j e).1;omega
 have hkeep:∀ j,j≤g→w'.heap[j]?=W.heap[j]?:=fun j hj=>hg.block j (by omega) (fun e=>hne j hj e.symm)
 have hk':=zGf h.b hg h.k (by decide)
 refine ⟨?_,?_,ownsRow_setCell_other hk' (fun e=>by have:=(hk'.lt g e).1;omega) _,?_,fun j h1 h2=>?_,h.lt,(h.below.grown hg (by omega) (fun q e=>by have:=(h.b.lt q e).1;omega)).setCell (p:=⟨g,6,none⟩) (by show B0≤g;omega) _,by simp;have:=hg.size;omega,fun p hp=>?_⟩
 ·have:=heap_setCell_same w' g 6 _ _ v' (by rw [hkeep g (Nat.le_refl _)];exact h.s)
  exact this
 ·exact h.m.same (by rw [heap_setCell_other _ _ _ _ (show bm≠g by omega),hkeep bm (by omega)])
 ·rw [zJm,List.length_append]
  exact ownsRow_setCell_other ho (fun e=>by have:=(ho.lt g e).1;omega) _
 ·rw [heap_setCell_other _ _ _ _ (show j≠g by omega),hkeep j (by omega)];exact h.old j h1 h2
 ·obtain ⟨a,b⟩:=h.x p hp
  have:=jI h.b hg a (by decide)
  exact ⟨by rw [heap_setCell_other _ _ _ _ (show p.1≠g by omega)];exact this,b⟩
end Go.Proofs.YtfalelkfhandfaaGreatDoor
namespace Go.Proofs.YtfalelkfhandfaaGreatDoor
set_option linter.all false

def dupB (r:RuleM) (k:Nat) (s:ByteArray):Bool:=(r.holes.take k).any fun g=>decide (g.1=s)
def seenM (hs:List Hl) (x:ByteArray):Option Int:=if hs.any (fun g=>decide (g.1=x))=true then some 1 else none
theorem zGh (hs:List Hl) (h:Hl):(fun x=>if x=h.1 then some 1 else seenM hs x)=seenM (hs++[h]):=by
 funext x
 unfold seenM
 rw [List.any_append]
 by_cases e:x=h.1
 ·subst e;simp
 ·rw [if_neg e]
  have:(List.any [h] fun g=>decide (g.1=x))=false:=by simp;exact fun e2=>e e2.symm
  rw [this,Bool.or_false]
theorem jO {α:Type} {l:List α} {k:Nat} (hk:k<l.length):l.take (k+1)=l.take k++[l[k]]:=by
 rw [List.take_add_one,List.getElem?_eq_getElem hk];rfl
theorem zJq {r:RuleM} {k:Nat} (hk:k<r.holes.length):holeB r k=(!dupB r k (r.holes[k]).1&&(name (r.holes[k]).1&&(decide (1≤(r.holes[k]).2∧(r.holes[k]).2≤7)&&(decide (1≤yV r.fnd r.holes[k])&&decide (0≤yV r.by' r.holes[k]))))):=by
 unfold holeB dupB
 rw [List.getElem?_eq_getElem hk]
theorem gG {r:RuleM} (h:ruleTop r=false):ruleZ r=10:=by unfold ruleZ;rw [if_pos h]
theorem zAu {r:RuleM} (h:ruleTop r=true) (c:16<r.holes.length∨2<sevN r.holes):ruleZ r=14:=by unfold ruleZ;rw [if_neg (by simp [h]),if_pos c]
theorem zJr {r:RuleM} (h:ruleTop r=true) (c1:r.holes.length≤16) (c2:sevN r.holes≤2) {k:Nat} (hk:k<r.holes.length) (hb:holeB r k=false):ruleZ r=11:=by
 unfold ruleZ
 rw [if_neg (by simp [h]),if_neg (by omega),if_neg (fun hh=>by have:=hh k hk;rw [hb] at this;cases this)]
theorem zNz {r:RuleM} (h:ruleTop r=true) (c1:r.holes.length≤16) (c2:sevN r.holes≤2) (hh:∀ i,i<r.holes.length→holeB r i=true):ruleZ r=0:=by
 unfold ruleZ
 rw [if_neg (by simp [h]),if_neg (by omega),if_pos hh]
theorem zGi {hs:List Hl} {k:Nat} (hk:k<hs.length):sevN (hs.take (k+1))=sevN (hs.take k)+(if isSev (hs[k]).2=true then 1 else 0):=by
 unfold sevN
 rw [jO hk,List.filter_append,List.length_append]
 by_cases h:isSev (hs[k]).2=true
 ·simp [h]
 ·simp [h]
theorem zJs (hs:List Hl):sevN (hs.take hs.length)=sevN hs:=by rw [List.take_length]
theorem zOa (hs:List Hl):sevN hs≤hs.length:=List.length_filter_le _ _
end Go.Proofs.YtfalelkfhandfaaGreatDoor
