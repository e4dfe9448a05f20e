/- Layer 17: the program's kids, walked. -/
import Derived.Test.YtbjkdmbcpkopjaaGreatDoorSeekHMt
import Derived.Test.YtbjkdmbcpkopjaaGreatDoorUntilMt
namespace Go.Proofs.YtbjkdmbcpkopjaaGreatDoor
set_option maxRecDepth 100000
set_option maxHeartbeats 32000000
set_option linter.all false
attribute [local irreducible] Calls
open Go.RowKit

def boxed (w:World) (g:Nat) (p pend i iend:Nat) (tv:Value):World :=
 (((((w.alloc (.cells #[.pointer (some ⟨g,0,none⟩)] 104)).alloc (.cells #[.int .i64 (p:Int)] 3)).alloc (.cells #[.int .i64 (pend:Int)] 3)).alloc (.cells #[.int .i64 (i:Int)] 3)).alloc (.cells #[.int .i64 (iend:Int)] 3)).alloc (.cells #[tv] 24)
theorem jG (w:World) (g:Nat) (p pend i iend:Nat) (tv:Value):Below w.heap.size w (boxed w g p pend i iend tv):=by
 unfold boxed;exact ((((((bR _ _).alloc (nR _) _).alloc (by simp) _).alloc (by simp;try omega) _).alloc (by simp;try omega) _).alloc (by simp;try omega) _).alloc (by simp;try omega) _
theorem zBy (w:World) (g:Nat) (p pend i iend:Nat) (tv:Value):(boxed w g p pend i iend tv).heap.size=w.heap.size+6:=by unfold boxed;simp
theorem yAd (w:World) (g:Nat) (p pend i iend:Nat) (tv:Value):(boxed w g p pend i iend tv).cell? ⟨w.heap.size,0,none⟩=some (.pointer (some ⟨g,0,none⟩))∧(boxed w g p pend i iend tv).cell? ⟨w.heap.size+1,0,none⟩=some (.int .i64 (p:Int))∧(boxed w g p pend i iend tv).cell? ⟨w.heap.size+2,0,none⟩=some (.int .i64 (pend:Int))∧(boxed w g p pend i iend tv).cell? ⟨w.heap.size+3,0,none⟩=some (.int .i64 (i:Int))∧(boxed w g p pend i iend tv).cell? ⟨w.heap.size+4,0,none⟩=some (.int .i64 (iend:Int))∧(boxed w g p pend i iend tv).cell? ⟨w.heap.size+5,0,none⟩=some tv:=by
 unfold boxed;refine ⟨?_,?_,?_,?_,?_,?_⟩
 ·rw [World.cell?_alloc_past _ _ _ (show _<_ by simp;try omega),World.cell?_alloc_past _ _ _ (show _<_ by simp;try omega),World.cell?_alloc_past _ _ _ (show _<_ by simp;try omega),World.cell?_alloc_past _ _ _ (show _<_ by simp;try omega),World.cell?_alloc_past _ _ _ (show _<_ by simp;try omega)];exact World.cell?_alloc_at _ _ _ _ (by simp)
 ·rw [World.cell?_alloc_past _ _ _ (show _<_ by simp;try omega),World.cell?_alloc_past _ _ _ (show _<_ by simp;try omega),World.cell?_alloc_past _ _ _ (show _<_ by simp;try omega),World.cell?_alloc_past _ _ _ (show _<_ by simp;try omega)];exact World.cell?_alloc_at _ _ _ _ (by simp)
 ·rw [World.cell?_alloc_past _ _ _ (show _<_ by simp;try omega),World.cell?_alloc_past _ _ _ (show _<_ by simp;try omega),World.cell?_alloc_past _ _ _ (show _<_ by simp;try omega)];exact World.cell?_alloc_at _ _ _ _ (by simp)
 ·rw [World.cell?_alloc_past _ _ _ (show _<_ by simp;try omega),World.cell?_alloc_past _ _ _ (show _<_ by simp;try omega)];exact World.cell?_alloc_at _ _ _ _ (by simp)
 ·rw [World.cell?_alloc_past _ _ _ (show _<_ by simp;try omega)];exact World.cell?_alloc_at _ _ _ _ (by simp)
 ·exact World.cell?_alloc_at _ _ _ _ (by simp)
theorem zPh (E:SkE) (ok:SkOK E) (n:Nat) (w:World) (σ:MSt) (p i iend:Nat) (K:MSt→Option MSt) (tv:Value) (hi:SkIn E σ w) (hpe:p≤E.f.length) (hie:iend≤E.l.length) (hile:i≤iend) (ht:ThenOK E K tv w) :
  Calls Tryz.prog 81 #[.pointer (some ⟨E.g,0,none⟩),.int .i64 (p:Int),.int .i64 (p:Int),.int .i64 (i:Int),.int .i64 (iend:Int),tv] w (seekPost E (sKids E.f E.l E.hs (n+1) p p i iend K σ) σ w):=by
 have hsk:sKids E.f E.l E.hs (n+1) p p i iend K σ=if i=iend then K σ else none:=by rw [sKids,iP rfl]
 rw [hsk];obtain ⟨Q,hQ⟩:∃ Q,seekPost E (if i=iend then K σ else none) σ w=Q:=⟨_,rfl⟩;have HQ:Hid (∀ e w',seekPost E (if i=iend then K σ else none) σ w e w'→Q e w'):=Hd fun e w' h=>by rw [← hQ];exact h
 rw [hQ];clear hQ hsk;obtain ⟨k,cap,rfl,hcf,HT⟩:=ht;have hcf:=hcf cap;have HT:=Hd HT;have HI:=Hd hi;have HBX:Hid (Below w.heap.size w (boxed w E.g p p i iend (.func (.func k) #[] cap))):=Hd (jG _ _ _ _ _ _ _);have hpp:((p:Int) == (p:Int))=true:=by rw [beq_iff_eq]
 clear hi;by_cases hii:i=iend
 ·subst hii;rw [iP rfl] at HQ;go_enter Tryz.func81,Tryz.ntmps81;go_wp2_with fail;refine (HT.out _ σ (KeptX.of_below HBX.out) (HI.out.below HBX.out)).mono ?_;intro e w6 h6;obtain ⟨y,rfl⟩:=h6.bool;have HX:=Hd (HQ.out _ _ (h6.from (KeptX.of_below HBX.out)));clear h6;go_wp2_with fail;exact HX.out
 ·have g1:((i:Int) == (iend:Int))=false:=by rw [bE];omega
  have g2:(i == iend)=false:=by rw [bE];exact hii
  rw [iN hii] at HQ;have HX:=Hd (HQ.out _ _ (seekPost.no rfl (KeptX.of_below HBX.out) (HI.out.below HBX.out)));clear hii;go_enter Tryz.func81,Tryz.ntmps81;go_wp2_with fail;exact HX.out
theorem zKi {E:SkE} {w:World} {σ:MSt} (hi:SkIn E σ w) (p pend i iend:Nat) (tv:Value) (hne:∀ b,w.heap.size≤b→some b≠E.vb.ownBlock∧some b≠E.vz.ownBlock) :
  BoxAt E (boxed w E.g p pend i iend tv) w.heap.size (.pointer (some ⟨E.g,0,none⟩))∧BoxAt E (boxed w E.g p pend i iend tv) (w.heap.size+1) (.int .i64 (p:Int))∧BoxAt E (boxed w E.g p pend i iend tv) (w.heap.size+2) (.int .i64 (pend:Int))∧BoxAt E (boxed w E.g p pend i iend tv) (w.heap.size+3) (.int .i64 (i:Int))∧BoxAt E (boxed w E.g p pend i iend tv) (w.heap.size+4) (.int .i64 (iend:Int))∧BoxAt E (boxed w E.g p pend i iend tv) (w.heap.size+5) tv:=by
 have hs:=zBy w E.g p pend i iend tv;obtain ⟨c0,c1,c2,c3,c4,c5⟩:=yAd w E.g p pend i iend tv;exact ⟨⟨c0,by omega,(hne _ (by omega)).1,(hne _ (by omega)).2⟩,⟨c1,by omega,(hne _ (by omega)).1,(hne _ (by omega)).2⟩,⟨c2,by omega,(hne _ (by omega)).1,(hne _ (by omega)).2⟩,⟨c3,by omega,(hne _ (by omega)).1,(hne _ (by omega)).2⟩,⟨c4,by omega,(hne _ (by omega)).1,(hne _ (by omega)).2⟩,⟨c5,by omega,(hne _ (by omega)).1,(hne _ (by omega)).2⟩⟩
theorem zPi {w:World} {B:Nat} {v:Value} {e:TypeId} {size n:Nat} {xs:List Value} (h:w.ownsRow B e size v n xs):∀ b,w.heap.size≤b→some b≠v.ownBlock:=by
 intro b hb e;rcases h.2 with ⟨hv,_⟩ | ⟨g,cap,cur,hv,_,hh,_⟩
 ·rw [hv] at e;cases e
 ·rw [hv] at e;simp only [Value.ownBlock,Option.some.injEq] at e;have:=zG hh;omega
theorem SkIn.fresh {E:SkE} {σ:MSt} {w:World} (h:SkIn E σ w):∀ b,w.heap.size≤b→some b≠E.vb.ownBlock∧some b≠E.vz.ownBlock:=fun b hb=>⟨zPi h.b b hb,zPi h.z b hb⟩
theorem zPj (E:SkE) (ok:SkOK E) (n:Nat) (IHP:PartC E n) (IHK:KidsC E n) (w:World) (σ:MSt) (p pend i iend:Nat) (K:MSt→Option MSt) (tv:Value) (J M:Nat) (hi:SkIn E σ w) (hpe:pend≤E.f.length) (hJ:advT E.f J p pend=some pend) (hie:iend≤E.l.length) (hM:advT E.l M i iend=some iend) (hn:2*(pend-p)+1≤n+1) (ht:ThenOK E K tv w) (hpp:p≠pend) (hsv:sevOf E.f E.hs p=none) :
  Calls Tryz.prog 81 #[.pointer (some ⟨E.g,0,none⟩),.int .i64 (p:Int),.int .i64 (pend:Int),.int .i64 (i:Int),.int .i64 (iend:Int),tv] w (seekPost E (sKids E.f E.l E.hs (n+1) p pend i iend K σ) σ w):=by
 have hsk:sKids E.f E.l E.hs (n+1) p pend i iend K σ=if i<iend then sPart E.f E.l E.hs n p i (sKids E.f E.l E.hs n (zB E.f p) pend (zB E.l i) iend K) σ else none:=by rw [sKids,iN hpp,hsv]
 rw [hsk];obtain ⟨Q,hQ⟩:∃ Q,seekPost E (if i<iend then sPart E.f E.l E.hs n p i (sKids E.f E.l E.hs n (zB E.f p) pend (zB E.l i) iend K) σ else none) σ w=Q:=⟨_,rfl⟩;have HQ:Hid (∀ e w',seekPost E (if i<iend then sPart E.f E.l E.hs n p i (sKids E.f E.l E.hs n (zB E.f p) pend (zB E.l i) iend K) σ else none) σ w e w'→Q e w'):=Hd fun e w' h=>by rw [← hQ];exact h
 rw [hQ];clear hQ hsk;have ht':=ht;obtain ⟨kf,kcap,rfl,_,_⟩:=ht';have hfw:=zJ ok.hf.well;have hlw:=zJ ok.hl;obtain ⟨hplt,J',_,hJ'⟩:=yZ hJ hpp;have hle:=yY hfw _ _ _ _ hpe hJ';have hgf:=zP hfw (show p<E.f.length by omega);have HB:Hid (Below w.heap.size w (boxed w E.g p pend i iend (.func (.func kf) #[] kcap))):=Hd (jG _ _ _ _ _ _ _);have hbx:=zKi hi p pend i iend (.func (.func kf) #[] kcap) hi.fresh;have HI:=Hd (hi.below (jG w E.g p pend i iend (.func (.func kf) #[] kcap)));have C1:=Hd (zFl E ok _ HI.out.st.now p (by omega));have C2:=Hd (fun W (hk:KeptX E (boxed w E.g p pend i iend (.func (.func kf) #[] kcap)) W) h (hh:h<E.hs.length)=>fW E W ((HI.out.st.keep hk).now) ok.hn h hh);have C3:=Hd (fun W=>zIy (some ⟨E.g,0,none⟩) W);have CP:=Hd (fun W (hk:KeptX E (boxed w E.g p pend i iend (.func (.func kf) #[] kcap)) W) (hs:SkIn E σ W) (hii:i<iend) =>
  IHP W σ p i _ _ hs (by omega) (by omega) (by omega) ((yAb E ok n IHK W hs.st p pend i iend K (.func (.func kf) #[] kcap) (ht.keep ((KeptX.of_below HB.out).trans hk)) _ _ _ _ _ _ (hbx.1.keep hk) (hbx.2.1.keep hk) (hbx.2.2.1.keep hk) (hbx.2.2.2.1.keep hk) (hbx.2.2.2.2.1.keep hk) (hbx.2.2.2.2.2.keep hk) (by omega) (by omega) J' (M-1) hpe hJ' hie (by
   obtain ⟨_,M',e,hM'⟩:=yZ hM (show i≠iend by omega);rw [show M-1=M' by omega];exact hM') (by omega))))
 have hmf:∀ (fn:Fn) (first cap:Array Value) (w:World),(Instr.makeFunc fn first cap).run Tryz.prog w=.ok (.func fn first cap) w:=fun _ _ _ _=>rfl;have g1:((p:Int) == (pend:Int))=false:=by rw [bE];omega
 have g2:(p == pend)=false:=by rw [bE];exact hpp
 obtain ⟨o,ho1,ho2⟩:∃ o,zL E.f E.hs p=o∧∀ h,o=some h→h<E.hs.length∧isSev (hkind E.hs h)=false:=by
  refine ⟨_,rfl,fun h e=>⟨fN E.f E.hs e,?_⟩⟩;unfold sevOf at hsv;rw [e] at hsv;simp only [] at hsv;split at hsv
  ·cases hsv
  ·rename_i hx;simpa using hx
 rw [ho1] at C1;have HO2:=Hd ho2;have hsz:=zBy w E.g p pend i iend (.func (.func kf) #[] kcap);have HSZ:=Hd hsz;obtain ⟨b0,b1,b2,b3,b4,b5⟩:=hbx;have k0:=b0.c;have k1:=b1.c;have k2:=b2.c;have k3:=b3.c;have k4:=b4.c;have k5:=b5.c;have HBX:Hid (∀ m,KeptX E w ((boxed w E.g p pend i iend (.func (.func kf) #[] kcap)).drewN m)):=Hd fun m=>(KeptX.of_below HB.out).trans (KeptX.drewN E _ m)
 clear hi ht hJ hM hn hpp hsv hfw hlw hJ' hle hgf ho1 ho2 hsz b0 b1 b2 b3 b4 b5;cases o with
 | none =>
  by_cases hii:i<iend
  ·have hil:(i:Int)<iend:=by omega
   have CP:=Hd (fun m=>CP.out _ (KeptX.drewN E (boxed w E.g p pend i iend (.func (.func kf) #[] kcap)) m) (HI.out.drewN m) hii);rw [iP hii] at HQ;clear hii;go_enter Tryz.func81,Tryz.ntmps81;go_wp2_with fail;refine C1.out.mono ?_;intro e w1 h1;unfold holePost at h1;obtain ⟨rfl,m,rfl⟩:=h1;unfold holeZ;go_wp2_with fail;refine (C3.out _).mono ?_;rintro e w2 ⟨rfl,rfl⟩;go_wp2_with fail;refine (CP.out m).mono ?_;intro e w6 h6;obtain ⟨v,rfl⟩:=h6.bool;have HX:=Hd (HQ.out _ _ (h6.from (HBX.out m)));clear h6;go_wp2_with fail;exact HX.out
  ·have hil:¬ (i:Int)<iend:=by omega
   have HX:=Hd (fun m=>HQ.out _ _ (by rw [iN hii];exact seekPost.no rfl (HBX.out m) (HI.out.drewN m)));clear hii;go_enter Tryz.func81,Tryz.ntmps81;go_wp2_with fail;refine C1.out.mono ?_;intro e w1 h1;unfold holePost at h1;obtain ⟨rfl,m,rfl⟩:=h1;unfold holeZ;go_wp2_with fail;refine (C3.out _).mono ?_;rintro e w2 ⟨rfl,rfl⟩;go_wp2_with fail;exact HX.out m
 | some h =>
  obtain ⟨hh,hsv⟩:=HO2.out h rfl;have hh0:(0:Int)≤(h:Int):=by omega
  by_cases hii:i<iend
  ·have hil:(i:Int)<iend:=by omega
   have CP:=Hd (fun m=>CP.out _ (KeptX.drewN E (boxed w E.g p pend i iend (.func (.func kf) #[] kcap)) m) (HI.out.drewN m) hii);rw [iP hii] at HQ;clear hii;go_enter Tryz.func81,Tryz.ntmps81;go_wp2_with fail;refine C1.out.mono ?_;intro e w1 h1;unfold holePost at h1;obtain ⟨rfl,m,rfl⟩:=h1;unfold holeZ;go_wp2_with fail;refine (C2.out _ (KeptX.drewN E _ m) h hh).mono ?_;rw [hsv];rintro e w2 ⟨rfl,rfl⟩;go_wp2_with fail;refine (CP.out m).mono ?_;intro e w6 h6;obtain ⟨v,rfl⟩:=h6.bool;have HX:=Hd (HQ.out _ _ (h6.from (HBX.out m)));clear h6;go_wp2_with fail;exact HX.out
  ·have hil:¬ (i:Int)<iend:=by omega
   have HX:=Hd (fun m=>HQ.out _ _ (by rw [iN hii];exact seekPost.no rfl (HBX.out m) (HI.out.drewN m)));clear hii;go_enter Tryz.func81,Tryz.ntmps81;go_wp2_with fail;refine C1.out.mono ?_;intro e w1 h1;unfold holePost at h1;obtain ⟨rfl,m,rfl⟩:=h1;unfold holeZ;go_wp2_with fail;refine (C2.out _ (KeptX.drewN E _ m) h hh).mono ?_;rw [hsv];rintro e w2 ⟨rfl,rfl⟩;go_wp2_with fail;exact HX.out m
theorem zIa (w:World) (v:Value) (T:TypeId):(w.alloc (.cells #[v] T)).frozen? ⟨w.heap.size,0,none⟩=false:=by
 have hn:(w.alloc (.cells #[v] T)).heap[w.heap.size]?=some (.cells #[v] T (0,0)):=heap_alloc_new _ _;unfold World.frozen?;rw [hn];simp
def boxInt (v:Value) (w:World):Int:=match v with
 | .pointer (some a)=>(match w.cell? a with
  | some u=>intOf u
  | none=>0)
 | _=>0
def sevRel (E:SkE) (σ:MSt) (W0:World) (i iend:Nat) (g:Nat→Option MSt) (R:Option MSt) (pv:Value) (wr:World):Prop :=
 ∃ bt tq m fu:Nat,pv=.pointer (some ⟨bt,0,none⟩)∧BoxAt E wr bt (.int .i64 (tq:Int))∧wr.frozen? ⟨bt,0,none⟩=false∧KeptX E W0 wr∧SkIn E σ wr∧advT E.l m i iend=some tq∧iend-tq<fu∧sLoop E.l g fu tq iend=R
theorem zPk (E:SkE) (ok:SkOK E) (n:Nat) (IHP:PartC E n) (IHK:KidsC E n) (w:World) (σ:MSt) (p pend i iend:Nat) (K:MSt→Option MSt) (tv:Value) (J M:Nat) (hi:SkIn E σ w) (hpe:pend≤E.f.length) (hJ:advT E.f J p pend=some pend) (hie:iend≤E.l.length) (hM:advT E.l M i iend=some iend) (hn:2*(pend-p)+1≤n+1) (ht:ThenOK E K tv w) (hpp:p≠pend) (h:Nat) (hsv:sevOf E.f E.hs p=some h) :
  Calls Tryz.prog 81 #[.pointer (some ⟨E.g,0,none⟩),.int .i64 (p:Int),.int .i64 (pend:Int),.int .i64 (i:Int),.int .i64 (iend:Int),tv] w (seekPost E (sKids E.f E.l E.hs (n+1) p pend i iend K σ) σ w):=by
 have hsk:sKids E.f E.l E.hs (n+1) p pend i iend K σ=sLoop E.l (fun tq=>(bindS E.l σ h i tq).bind (sKids E.f E.l E.hs n (zB E.f p) pend tq iend K)) (E.l.length+1) i iend:=by rw [sKids,iN hpp,hsv]
 rw [hsk];obtain ⟨Q,hQ⟩:∃ Q,seekPost E (sLoop E.l (fun tq=>(bindS E.l σ h i tq).bind (sKids E.f E.l E.hs n (zB E.f p) pend tq iend K)) (E.l.length+1) i iend) σ w=Q:=⟨_,rfl⟩;have HQ:Hid (∀ e w',seekPost E (sLoop E.l (fun tq=>(bindS E.l σ h i tq).bind (sKids E.f E.l E.hs n (zB E.f p) pend tq iend K)) (E.l.length+1) i iend) σ w e w'→Q e w'):=Hd fun e w' h=>by rw [← hQ];exact h
 rw [hQ];clear hQ hsk;have ht':=ht;obtain ⟨kf,kcap,rfl,_,_⟩:=ht';have hfw:=zJ ok.hf.well;have hlw:=zJ ok.hl;obtain ⟨hplt,J',_,hJ'⟩:=yZ hJ hpp;have hle:=yY hfw _ _ _ _ hpe hJ';have hgf:=zP hfw (show p<E.f.length by omega);have HB:Hid (Below w.heap.size w (boxed w E.g p pend i iend (.func (.func kf) #[] kcap))):=Hd (jG _ _ _ _ _ _ _);have hbx:=zKi hi p pend i iend (.func (.func kf) #[] kcap) hi.fresh;have HI:=Hd (hi.below (jG w E.g p pend i iend (.func (.func kf) #[] kcap)));have C1:=Hd (zFl E ok _ HI.out.st.now p (by omega));have C2:=Hd (fun W (hk:KeptX E (boxed w E.g p pend i iend (.func (.func kf) #[] kcap)) W) h (hh:h<E.hs.length)=>fW E W ((HI.out.st.keep hk).now) ok.hn h hh);have hmf:∀ (fn:Fn) (first cap:Array Value) (w:World),(Instr.makeFunc fn first cap).run Tryz.prog w=.ok (.func fn first cap) w:=fun _ _ _ _=>rfl;have g1:((p:Int) == (pend:Int))=false:=by rw [bE];omega
 have g2:(p == pend)=false:=by rw [bE];exact hpp
 obtain ⟨hsev,ho1⟩:=gV E.f E.hs hsv;have hh:=fN E.f E.hs ho1;rw [ho1] at C1;have hh0:(0:Int)≤(h:Int):=by omega
 have hsz:=zBy w E.g p pend i iend (.func (.func kf) #[] kcap);have HSZ:=Hd hsz;obtain ⟨b0,b1,b2,b3,b4,b5⟩:=hbx;have k0:=b0.c;have k1:=b1.c;have k2:=b2.c;have k3:=b3.c;have k4:=b4.c;have k5:=b5.c;have HBX:Hid (∀ m,KeptX E w ((boxed w E.g p pend i iend (.func (.func kf) #[] kcap)).drewN m)):=Hd fun m=>(KeptX.of_below HB.out).trans (KeptX.drewN E _ m)
 have HM:=Hd hM;have HBB:=Hd (show BoxAt E (boxed w E.g p pend i iend (.func (.func kf) #[] kcap)) w.heap.size (.pointer (some ⟨E.g,0,none⟩))∧BoxAt E (boxed w E.g p pend i iend (.func (.func kf) #[] kcap)) (w.heap.size+1) (.int .i64 (p:Int))∧BoxAt E (boxed w E.g p pend i iend (.func (.func kf) #[] kcap)) (w.heap.size+2) (.int .i64 (pend:Int))∧BoxAt E (boxed w E.g p pend i iend (.func (.func kf) #[] kcap)) (w.heap.size+3) (.int .i64 (i:Int))∧BoxAt E (boxed w E.g p pend i iend (.func (.func kf) #[] kcap)) (w.heap.size+4) (.int .i64 (iend:Int))∧BoxAt E (boxed w E.g p pend i iend (.func (.func kf) #[] kcap)) (w.heap.size+5) (.func (.func kf) #[] kcap) from ⟨b0,b1,b2,b3,b4,b5⟩);have CB:=Hd (fun W (hk:KeptX E (boxed w E.g p pend i iend (.func (.func kf) #[] kcap)) W) (hs:SkIn E σ W) (bt tq m:Nat) (hbt:BoxAt E W bt (.int .i64 (tq:Int))) (hto:advT E.l m i iend=some tq) =>
  zTk E ok W σ hs h hh i tq (by have:=yY hlw _ _ _ _ hie hto;omega) (by have:=(jB hlw hie hM hto).2.1;omega) _ _ (yAc E ok n IHK W hs.st p pend tq iend K (.func (.func kf) #[] kcap) (ht.keep ((KeptX.of_below HB.out).trans hk)) _ _ _ _ _ _ (b0.keep hk) (b1.keep hk) (b2.keep hk) hbt (b4.keep hk) (b5.keep hk) (by omega) J' (M-m) hpe hJ' hie (jB hlw hie hM hto).2.2 (by omega)))
 have HLW:=Hd hlw;have hiel:(iend:Int)≤E.l.length:=by omega
 have hll:=ok.ll;have hile:=yY hlw _ _ _ _ hie hM;clear hi ht hJ hM hn hpp hsv hfw hlw hJ' hle hgf ho1 hsz b0 b1 b2 b3 b4 b5;go_enter Tryz.func81,Tryz.ntmps81;go_wp2_with fail;refine C1.out.mono ?_;intro e w1 h1;unfold holePost at h1;obtain ⟨rfl,m,rfl⟩:=h1;unfold holeZ;go_wp2_with fail;refine (C2.out _ (KeptX.drewN E _ m) h hh).mono ?_;rw [hsev];rintro e w2 ⟨rfl,rfl⟩;have j0:((boxed w E.g p pend i iend (.func (.func kf) #[] kcap)).drewN m).cell? ⟨w.heap.size,0,none⟩=some (.pointer (some ⟨E.g,0,none⟩)):=k0;have j1:((boxed w E.g p pend i iend (.func (.func kf) #[] kcap)).drewN m).cell? ⟨w.heap.size+1,0,none⟩=some (.int .i64 (p:Int)):=k1;have j2:((boxed w E.g p pend i iend (.func (.func kf) #[] kcap)).drewN m).cell? ⟨w.heap.size+2,0,none⟩=some (.int .i64 (pend:Int)):=k2;have j3:((boxed w E.g p pend i iend (.func (.func kf) #[] kcap)).drewN m).cell? ⟨w.heap.size+3,0,none⟩=some (.int .i64 (i:Int)):=k3;have j4:((boxed w E.g p pend i iend (.func (.func kf) #[] kcap)).drewN m).cell? ⟨w.heap.size+4,0,none⟩=some (.int .i64 (iend:Int)):=k4;have j5:((boxed w E.g p pend i iend (.func (.func kf) #[] kcap)).drewN m).cell? ⟨w.heap.size+5,0,none⟩=some (.func (.func kf) #[] kcap):=k5;have HKW:=Hd (KeptX.drewN E (boxed w E.g p pend i iend (.func (.func kf) #[] kcap)) m);have HIW:=Hd (HI.out.drewN m);have HXW:=Hd (HBX.out m);have HSW:Hid (((boxed w E.g p pend i iend (.func (.func kf) #[] kcap)).drewN m).heap.size=w.heap.size+6):=Hd HSZ.out;clear k0 k1 k2 k3 k4 k5 C1 C2;generalize (boxed w E.g p pend i iend (.func (.func kf) #[] kcap)).drewN m=W1 at *;have HBW:=Hd (show BoxAt E W1 w.heap.size (.pointer (some ⟨E.g,0,none⟩))∧BoxAt E W1 (w.heap.size+1) (.int .i64 (p:Int))∧BoxAt E W1 (w.heap.size+2) (.int .i64 (pend:Int))∧BoxAt E W1 (w.heap.size+3) (.int .i64 (i:Int))∧BoxAt E W1 (w.heap.size+4) (.int .i64 (iend:Int))∧BoxAt E W1 (w.heap.size+5) (.func (.func kf) #[] kcap) from ⟨HBB.out.1.keep HKW.out,HBB.out.2.1.keep HKW.out,HBB.out.2.2.1.keep HKW.out,HBB.out.2.2.2.1.keep HKW.out,HBB.out.2.2.2.2.1.keep HKW.out,HBB.out.2.2.2.2.2.keep HKW.out⟩);have HAT:Hid (sevRel E σ W1 i iend (fun tq=>(bindS E.l σ h i tq).bind (sKids E.f E.l E.hs n (zB E.f p) pend tq iend K)) (sLoop E.l (fun tq=>(bindS E.l σ h i tq).bind (sKids E.f E.l E.hs n (zB E.f p) pend tq iend K)) (E.l.length+1) i iend) (.pointer (some ⟨W1.heap.size,0,none⟩)) (W1.alloc (.cells #[.int .i64 (i:Int)] 3))):=Hd
  ⟨W1.heap.size,i,0,E.l.length+1,rfl,⟨World.cell?_alloc_at _ _ _ _ rfl,by simp,(HIW.out.fresh _ (nR _)).1,(HIW.out.fresh _ (nR _)).2⟩,zIa W1 _ _,KeptX.alloc E W1 _,HIW.out.below ((bR _ _).alloc (nR _) _),rfl,by omega,rfl⟩
 generalize hR:sLoop E.l (fun tq=>(bindS E.l σ h i tq).bind (sKids E.f E.l E.hs n (zB E.f p) pend tq iend K)) (E.l.length+1) i iend=R at *;clear hR;go_wp2_with fail;clear j0 j1 j2 j3 j4 j5;go_loopw [14] (fun pv wr=>sevRel E σ W1 i iend (fun tq=>(bindS E.l σ h i tq).bind (sKids E.f E.l E.hs n (zB E.f p) pend tq iend K)) R pv wr) (fun pv wr=>(iend-boxInt pv wr).toNat)
 case atStart=>exact HAT.out
 case round =>
  obtain ⟨bt,tq,m2,fu,rfl,hbox,hfz,hkx,hsk,hadv,hfu,hR⟩:=hrel;obtain ⟨fu,rfl⟩:∃ f',fu=f'+1:=⟨fu-1,by omega⟩;rw [sLoop] at hR;have hkw:=HKW.out.trans hkx;have CBR:=Hd (CB.out wr hkw hsk bt tq m2 hbox hadv);have c0:=(HBW.out.1.keep hkx).c;have c1:=(HBW.out.2.1.keep hkx).c;have c2:=(HBW.out.2.2.1.keep hkx).c;have c3:=(HBW.out.2.2.2.1.keep hkx).c;have c4:=(HBW.out.2.2.2.2.1.keep hkx).c;have c5:=(HBW.out.2.2.2.2.2.keep hkx).c;have ct:=hbox.c;have HBOX:=Hd hbox;have HKX:=Hd hkx;have HFZ:=Hd hfz;have HADV:=Hd hadv;have HMS:Hid (tq≤iend∧i≤tq):=Hd ⟨(jB HLW.out hie HM.out hadv).2.1,by have:=yY HLW.out _ _ _ _ hie hadv;omega⟩;have HRR:=Hd hR;clear hbox hfz hkx hsk hadv hR hkw HAT;go_wp2_with fail;refine CBR.out.mono ?_;intro e w6 h6;obtain ⟨y,rfl⟩:=h6.bool;have HK6:=Hd h6.out.1;have HO6:=Hd h6.out.2;clear h6 CBR;cases y with
  | true =>
   have hx:Q (.returned (.bool true)) w6:=by
    rcases HO6.out with ⟨τ,k1,_,k3⟩ | ⟨_,k2,_⟩
    ·have hr:=HRR.out;rw [k1] at hr;exact HQ.out _ _ (seekPost.yes hr.symm (HXW.out.trans (HKX.out.trans HK6.out)) k3)
    ·cases k2
   have HX:=Hd hx;clear hx HO6 c0 c1 c2 c3 c4 c5 ct;go_wp2_with fail;exact HX.out
  | false =>
   have hno:(bindS E.l σ h i tq).bind (sKids E.f E.l E.hs n (zB E.f p) pend tq iend K)=none∧SkIn E σ w6:=by
    rcases HO6.out with ⟨τ,_,k2,_⟩ | ⟨k1,_,k3⟩
    ·cases k2
    ·exact ⟨k1,k3⟩
   have hr:=HRR.out;rw [hno.1] at hr;simp only [] at hr;have HRR:=Hd hr;have HI6:=Hd hno.2;clear c0 c1 c2 c3 c4 c5 ct hno hr HO6;have c0:=(HBW.out.1.keep (HKX.out.trans HK6.out)).c;have c4:=(HBW.out.2.2.2.2.1.keep (HKX.out.trans HK6.out)).c;have ct:=(HBOX.out.keep HK6.out).c;by_cases hte:tq=iend
   ·have g3:((tq:Int) == (iend:Int))=true:=by rw [beq_iff_eq];omega
    have g4:(tq == iend)=true:=by rw [beq_iff_eq];exact hte
    have hr:=HRR.out;rw [iP hte] at hr;have HX:=Hd (HQ.out _ _ (seekPost.no hr.symm (HXW.out.trans (HKX.out.trans HK6.out)) HI6.out));clear hte hr;go_wp2_with fail;exact HX.out
   ·have g3:((tq:Int) == (iend:Int))=false:=by rw [bE];omega
    have g4:(tq == iend)=false:=by rw [bE];exact hte
    have hr:=HRR.out;rw [iN hte] at hr;have HRR:=Hd hr;have hms:=HMS.out;obtain ⟨eb,eo,ec,hev,hec,hep⟩:=HI6.out.st.ends (L:=E.l) (v:=E.ve) (fun w' hk=>(HI6.out.st w' hk).e) (by omega);have hge:=zP HLW.out (show tq<E.l.length by omega);have hadv2:advT E.l (m2+1) i iend=some (zB E.l tq):=by
     rw [zAw,HADV.out,Option.bind_some,advT,iP (by omega),advT]
    have HADV2:=Hd hadv2;have HGE:=Hd hge;have HLE:=Hd (jB HLW.out hie HM.out hadv2).2.1;have HS:Hid (∀ W,KeptX E w6 W→(fun W=>W.cell? ⟨w.heap.size,0,none⟩=some (.pointer (some ⟨E.g,0,none⟩))∧W.cell? ⟨E.g,3,none⟩=some (.slice (some ⟨eb,eo,none⟩) E.l.length ec)∧W.cell? ⟨eb,eo+tq,none⟩=some (.int .i64 (zB E.l tq:Int))∧Hid (KeptX E w6 W)) W):=Hd fun W hk=>by
     have hc:=(HI6.out.st W hk).cells;exact ⟨(HBW.out.1.keep ((HKX.out.trans HK6.out).trans hk)).c,by rw [hc.2.2.2.1,hev],hep W hk tq (by omega),Hd hk⟩
    have htl:(tq:Int)<E.l.length:=by omega
    have ht0:(0:Int)≤(tq:Int):=by omega
    clear hte hr hms hev hep hge hadv2;generalize zB E.l tq=zl at *;go_upto_region 7 with (fail);have HB7:Hid (Below w6.heap.size w6 (w6.alloc (.cells #[.int .i64 (tq:Int)] 3))):=Hd ((bR _ _).alloc (nR _) _);have ct7:(w6.alloc (.cells #[.int .i64 (tq:Int)] 3)).cell? ⟨w6.heap.size,0,none⟩=some (.int .i64 (tq:Int)):=World.cell?_alloc_at _ _ _ _ rfl;have cz7:(w6.alloc (.cells #[.int .i64 (tq:Int)] 3)).frozen? ⟨w6.heap.size,0,none⟩=false:=zIa _ _ _;have hz7:w6.heap.size<(w6.alloc (.cells #[.int .i64 (tq:Int)] 3)).heap.size:=by simp
    have HFR:=Hd (HI6.out.fresh w6.heap.size (nR _));generalize w6.alloc (.cells #[.int .i64 (tq:Int)] 3)=W7 at *;generalize hnb:w6.heap.size=nb at *;have HNB:=Hd hnb;have HZ7:=Hd hz7;clear hnb hz7 c0 c4 ct;have HK7:Hid (KeptX E w6 W7):=Hd (KeptX.of_below (HNB.out ▸ HB7.out));have HBS:Hid (∀ W,Below nb w6 W→KeptX E w6 W):=Hd fun W hb=>KeptX.of_below (HNB.out ▸ hb)
    refine wp_region_noPanic ?_;refine wp_region_held_drew (S:=fun W=>W.cell? ⟨w.heap.size,0,none⟩=some (.pointer (some ⟨E.g,0,none⟩))∧W.cell? ⟨E.g,3,none⟩=some (.slice (some ⟨eb,eo,none⟩) E.l.length ec)∧W.cell? ⟨eb,eo+tq,none⟩=some (.int .i64 (zl:Int))∧Hid (KeptX E w6 W)) (by kernel_rfl) (HS.out _ (HBS.out _ HB7.out.drew)) (fun hHeldA=>?_);refine tH 0 _ hHeldA ?_;refine tH 1 _ hHeldA ?_;refine tH 2 _ hHeldA ?_;refine tH 3 _ hHeldA ?_;refine rH 4 _ fun K hK=>?_;go_simp;refine hK.out _ _ hHeldA (fun hHeldA_1=>?_);clear hK K hHeldA;(try simp only [qA,qL,qZ,qS])
    refine tH 5 _ hHeldA_1 ?_;refine tH 6 _ hHeldA_1 ?_;refine rH 7 _ fun K hK=>?_;go_simp;refine hK.out _ _ (HS.out _ (HBS.out _ (HB7.out.setCell (p:=⟨nb,0,none⟩) (nR _) _).drew)) (fun hHeldA_2=>?_);clear hK K hHeldA_1;(try simp only [qA,qL,qZ,qS])
    refine wpAnyH_done (by kernel_rfl) ?_ _;refine NoPanic.normal ?_;have HBN:Hid (Below nb w6 (W7.setCell ⟨nb,0,none⟩ (.int .i64 (zl:Int))).drew):=Hd (HB7.out.setCell (p:=⟨nb,0,none⟩) (nR _) _).drew;have hcell:(W7.setCell ⟨nb,0,none⟩ (.int .i64 (zl:Int))).cell? ⟨nb,0,none⟩=some (.int .i64 (zl:Int)):=World.cell?_setCell_same _ _ _ ct7;have HNX:Hid (sevRel E σ W1 i iend (fun tq=>(bindS E.l σ h i tq).bind (sKids E.f E.l E.hs n (zB E.f p) pend tq iend K)) R (.pointer (some ⟨nb,0,none⟩)) (W7.setCell ⟨nb,0,none⟩ (.int .i64 (zl:Int))).drew):=Hd
     ⟨nb,zl,m2+1,fu,rfl,⟨hcell,by simp;exact HZ7.out,HFR.out.1,HFR.out.2⟩,by simp;exact cz7,(HKX.out.trans HK6.out).trans (HBS.out _ HBN.out),HI6.out.below (HNB.out ▸ HBN.out),HADV2.out,by have:=HGE.out;have:=HLE.out;omega,HRR.out⟩
    have HMZ:Hid (iend-boxInt (.pointer (some ⟨nb,0,none⟩)) (W7.setCell ⟨nb,0,none⟩ (.int .i64 (zl:Int))).drew<(iend:Int)-tq∧(tq:Int)<iend):=Hd (by
     have h1:boxInt (.pointer (some ⟨nb,0,none⟩)) (W7.setCell ⟨nb,0,none⟩ (.int .i64 (zl:Int))).drew=(zl:Int):=by
      show (match (W7.setCell ⟨nb,0,none⟩ (.int .i64 (zl:Int))).cell? ⟨nb,0,none⟩ with
       | some u=>intOf u
       | none=>0)=_
      rw [hcell];rfl
     rw [h1];have:=HGE.out;have:=HLE.out;constructor <;> omega)
    have HMB:Hid (boxInt (.pointer (some ⟨bt,0,none⟩)) wr=(tq:Int)):=Hd (by
     show (match wr.cell? ⟨bt,0,none⟩ with
       | some u=>intOf u
       | none=>0)=_
     rw [HBOX.out.c];rfl)
    go_wp2_with fail;refine ⟨HNX.out,?_⟩;have h1:=HMZ.out;rw [HMB.out];omega
end Go.Proofs.YtbjkdmbcpkopjaaGreatDoor
