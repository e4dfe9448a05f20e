/- Layer 17, the reference: bind, walked. -/
import Derived.Test.YtlkheofphafofaaGreatDoorRefChkBMc
import Derived.Test.YtlkheofphafofaaGreatDoorTermSameMc
import Derived.Test.YtlkheofphafofaaGreatDoorStillMc
import Derived.Deep.RegionHeld3
import Derived.Test.YtlkheofphafofaaGreatDoorTermQMc
namespace Go.Proofs.YtlkheofphafofaaGreatDoor
set_option linter.all false
attribute [local irreducible] Calls
attribute [local irreducible] wpStill
open Go.RowKit

set_option maxRecDepth 100000 in
set_option maxHeartbeats 16000000 in
theorem wy_bind_old (E:WyE) (ok:WyOK E) (w:World) (σ:MSt) (hi:WyIn E σ w) (h:Nat) (hh:h<E.k.hs.length) (a b:Nat) (h1:a≤b) (h2:b≤E.k.l.length) (q:Nat×Nat) (hq:σ[h]?=some (some q)) :
  Calls Tryz.prog 64 #[.pointer (some ⟨E.k.g,0,none⟩),.int .i64 (h:Int),.int .i64 (a:Int),.int .i64 (b:Int)] w (wayPost E (bindS E.k.l σ h a b) w):=by
 have hbs:bindS E.k.l σ h a b=if piece E.k.l q.1 q.2=piece E.k.l a b then some σ else none:=by unfold bindS;rw [hq]
 rw [hbs]
 have HQ:RowKit.Hid (∀ x w',TellsEq x (piece E.k.l q.1 q.2) (piece E.k.l a b)→Below w.heap.size w w'→wayPost E (if piece E.k.l q.1 q.2=piece E.k.l a b then some σ else none) w (.returned (.bool x)) w'):=Hd fun x w' hx hb=>by
  by_cases he:piece E.k.l q.1 q.2=piece E.k.l a b
  ·obtain rfl:=hx.2 he
   exact wayPost.yes (if_pos he) (KeptX.of_below hb) (hi.below hb)
  ·obtain rfl:x=false:=by
    cases x with
    | false=>rfl
    | true=>exact absurd (hx.1 rfl) he
   exact wayPost.no (if_neg he) (KeptX.of_below hb)
 generalize wayPost E (if piece E.k.l q.1 q.2=piece E.k.l a b then some σ else none) w=Q at *
 obtain ⟨gb,cb,hvb,hcb,hB,hgb,b0,b1,b2,_⟩:=hi.bindAt hh hq
 obtain ⟨gz,cz,hvz,hcz,hBz,hgz,z0,_⟩:=hi.boundAt hh hq
 simp only [bindOf,Option.isSome_some] at b1 b2 z0
 obtain ⟨q1,q2⟩:=q
 simp only [] at b1 b2 HQ
 have hqr:=hi.r h (q1,q2) hq
 simp only [] at hqr
 obtain ⟨p1,k1,s1,r1⟩:=slice_piece w E.k.vl E.k.l hi.st.now.l q1 q2 hqr.1 hqr.2
 obtain ⟨p2,k2,s2,r2⟩:=slice_piece w E.k.vl E.k.l hi.st.now.l a b h1 h2
 have hll:=ok.ll
 have hl1:(piece E.k.l q1 q2).length≤1000000000:=by unfold piece;rw [List.length_take,List.length_drop];omega
 have hl2:(piece E.k.l a b).length≤1000000000:=by unfold piece;rw [List.length_take,List.length_drop];omega
 have CS:=Hd (fun W (hb:Below w.heap.size w W)=>ref_Same11 _ _ _ _ hl1 hl2 W (r1.below hb) (r2.below hb))
 generalize piece E.k.l q1 q2=P1 at *
 generalize piece E.k.l a b=P2 at *
 have hgs:E.k.g<w.heap.size:=lt_of_block hi.st.now.s
 have c5:=hi.st.now.cells.2.2.2.2.2.1
 have c7:=hi.st.now.cells.2.2.2.2.2.2.2.1
 have c8:=hi.st.now.cells.2.2.2.2.2.2.2.2
 obtain ⟨la,lc,hvl,hlc⟩:=hi.st.now.l.slice
 rw [hvl] at c5 s1 s2
 rw [hvb] at c7
 rw [hvz] at c8
 have hh0:(0:Int)≤(h:Int):=by omega
 have hhl:(h:Int)<E.k.hs.length:=by omega
 have hhb:(h:Int)<cb:=by omega
 have hhz:(h:Int)<cz:=by omega
 have HB:RowKit.Hid (Below w.heap.size w (w.alloc (.cells #[.string (E.k.hs[h]).1,.int .i64 (q1:Int),.int .i64 (q2:Int)] 41))):=Hd ((Below.refl _ _).alloc (Nat.le_refl _) _)
 have HK0:RowKit.Hid ((w.alloc (.cells #[.string (E.k.hs[h]).1,.int .i64 (q1:Int),.int .i64 (q2:Int)] 41)).heap[w.heap.size]?=some (.cells #[.string (E.k.hs[h]).1,.int .i64 (q1:Int),.int .i64 (q2:Int)] 41 (0,0))):=Hd (heap_alloc_new _ _)
 clear hi r1 r2 hqr hq hvb hvz hvl hbs hl1 hl2
 generalize (E.k.hs[h]).1=nm at *
 go_enter Tryz.func64,Tryz.ntmps64
 go_upto_region 3 with (fail)
 have e5:(w.alloc (.cells #[.string nm,.int .i64 (q1:Int),.int .i64 (q2:Int)] 41)).cell? ⟨E.k.g,5,none⟩=some (.slice la E.k.l.length lc):=by rw [HB.out.cell (p:=⟨E.k.g,5,none⟩) hgs];exact c5
 have x1:(w.alloc (.cells #[.string nm,.int .i64 (q1:Int),.int .i64 (q2:Int)] 41)).cell? ⟨w.heap.size,1,none⟩=some (.int .i64 (q1:Int)):=World.cell?_alloc_at _ _ _ _ rfl
 have x2:(w.alloc (.cells #[.string nm,.int .i64 (q1:Int),.int .i64 (q2:Int)] 41)).cell? ⟨w.heap.size,2,none⟩=some (.int .i64 (q2:Int)):=World.cell?_alloc_at _ _ _ _ rfl
 have HBd:=Hd HB.out.drew
 clear c5 c7 c8 b0 b1 b2 z0
 generalize w.alloc (.cells #[.string nm,.int .i64 (q1:Int),.int .i64 (q2:Int)] 41)=W0 at *
 generalize hss:w.heap.size=B at *
 have HSS:=Hd hss
 clear hss
 go_still_tail 16,(by kernel_rfl)
 go_wp2_with fail
 refine (CS.out _ HBd.out).mono ?_
 rintro e w4 ⟨x,rfl,hx,hb4⟩
 have HX:=Hd (HQ.out x w4 hx (HBd.out.trans (hb4.mono (HSS.out ▸ HBd.out.size))))
 clear hb4 hx CS
 go_wp2_with fail
 exact HX.out
set_option maxRecDepth 100000 in
set_option maxHeartbeats 16000000 in
theorem wy_bind_new (E:WyE) (ok:WyOK E) (w:World) (σ:MSt) (hi:WyIn E σ w) (h:Nat) (hh:h<E.k.hs.length) (a b:Nat) (h1:a≤b) (h2:b≤E.k.l.length) (hq:σ[h]?=some none) :
  Calls Tryz.prog 64 #[.pointer (some ⟨E.k.g,0,none⟩),.int .i64 (h:Int),.int .i64 (a:Int),.int .i64 (b:Int)] w (wayPost E (bindS E.k.l σ h a b) w):=by
 have hbs:bindS E.k.l σ h a b=some (σ.set h (some (a,b))):=by unfold bindS;rw [hq]
 rw [hbs]
 obtain ⟨gb,cb,hvb,hcb,hB,hgb,b0,b1,b2,bz⟩:=hi.bindAt hh hq
 obtain ⟨gz,cz,hvz,hcz,hBz,hgz,z0,zz⟩:=hi.boundAt hh hq
 have hst:=hi.store ok.ne hh (q:=(a,b)) ⟨h1,h2⟩ hvb hvz
 simp only [] at hst
 have HX:RowKit.Hid (wayPost E (some (σ.set h (some (a,b)))) w (.returned (.bool true)) (((w.setCell ⟨gz,h,none⟩ (.bool true)).setCell ⟨gb,h*3+1,none⟩ (.int .i64 (a:Int))).setCell ⟨gb,h*3+2,none⟩ (.int .i64 (b:Int)))):=Hd (wayPost.yes rfl hst.2 hst.1)
 generalize wayPost E (some (σ.set h (some (a,b)))) w=Q at *
 have hgn:=ok.gn
 have hne:=ok.ne
 rw [hvb,hvz] at hgn hne
 simp only [Value.ownBlock,ne_eq,Option.some.injEq,reduceCtorEq,false_or] at hgn hne
 simp only [bindOf,Option.isSome_none] at b1 b2 z0
 have c7:=hi.st.now.cells.2.2.2.2.2.2.2.1
 have c8:=hi.st.now.cells.2.2.2.2.2.2.2.2
 rw [hvb] at c7
 rw [hvz] at c8
 have hh0:(0:Int)≤(h:Int):=by omega
 have hhl:(h:Int)<E.k.hs.length:=by omega
 have hhb:(h:Int)<cb:=by omega
 have hhz:(h:Int)<cz:=by omega
 have r1:=bz (h*3+1)
 have r2:=bz (h*3+2)
 have r3:=zz h
 have n1:∀ j,(⟨gz,h,none⟩:Addr)≠⟨E.k.g,j,none⟩:=fun j e=>hgn.2 (congrArg Addr.block e).symm
 have n2:∀ j,(⟨gz,h,none⟩:Addr)≠⟨gb,j,none⟩:=fun j e=>hne (congrArg Addr.block e).symm
 have n3:∀ i j,(⟨gb,i,none⟩:Addr)≠⟨E.k.g,j,none⟩:=fun i j e=>hgn.1 (congrArg Addr.block e).symm
 have e7:(w.setCell ⟨gz,h,none⟩ (.bool true)).cell? ⟨E.k.g,7,none⟩=some (.slice (some ⟨gb,0,none⟩) E.k.hs.length cb):=by rw [World.cell?_setCell_other (h:=n1 _)];exact c7
 have y1:(w.setCell ⟨gz,h,none⟩ (.bool true)).cell? ⟨gb,h*3+1,none⟩=some (.int .i64 0):=by rw [World.cell?_setCell_other (h:=n2 _)];exact b1
 have s1:(w.setCell ⟨gz,h,none⟩ (.bool true)).frozen? ⟨gb,h*3+1,none⟩=false:=by rw [World.frozen?_setCell];exact r1
 have e8:((w.setCell ⟨gz,h,none⟩ (.bool true)).setCell ⟨gb,h*3+1,none⟩ (.int .i64 (a:Int))).cell? ⟨E.k.g,7,none⟩=some (.slice (some ⟨gb,0,none⟩) E.k.hs.length cb):=by rw [World.cell?_setCell_other (h:=n3 _ _)];exact e7
 have y0:(w.setCell ⟨gz,h,none⟩ (.bool true)).cell? ⟨gb,h*3+2,none⟩=some (.int .i64 0):=by rw [World.cell?_setCell_other (h:=n2 _)];exact b2
 have s0:(w.setCell ⟨gz,h,none⟩ (.bool true)).frozen? ⟨gb,h*3+2,none⟩=false:=by rw [World.frozen?_setCell];exact r2
 have y2:((w.setCell ⟨gz,h,none⟩ (.bool true)).setCell ⟨gb,h*3+1,none⟩ (.int .i64 (a:Int))).cell? ⟨gb,h*3+2,none⟩=some (.int .i64 0):=by rw [World.cell?_setCell_other (h:=by simp)];exact y0
 have s2:((w.setCell ⟨gz,h,none⟩ (.bool true)).setCell ⟨gb,h*3+1,none⟩ (.int .i64 (a:Int))).frozen? ⟨gb,h*3+2,none⟩=false:=by rw [World.frozen?_setCell];exact s0
 clear n1 n2 n3
 clear hi hst hq hbs bz zz hvb hvz b0 b1 b2 r1 r2
 go_enter Tryz.func64,Tryz.ntmps64
 go_upto_region 5 with (fail)
 clear z0 c7 c8 r3 y0 s0
 generalize w.setCell ⟨gz,h,none⟩ (.bool true)=W1 at *
 go_upto_region 6 with (fail)
 clear e7 y1 s1
 generalize W1.setCell ⟨gb,h*3+1,none⟩ (.int .i64 (a:Int))=W2 at *
 go_wp2_with fail
 exact HX.out
theorem wy_bind (E:WyE) (ok:WyOK E) (w:World) (σ:MSt) (hi:WyIn E σ w) (h:Nat) (hh:h<E.k.hs.length) (a b:Nat) (h1:a≤b) (h2:b≤E.k.l.length) :
  Calls Tryz.prog 64 #[.pointer (some ⟨E.k.g,0,none⟩),.int .i64 (h:Int),.int .i64 (a:Int),.int .i64 (b:Int)] w (wayPost E (bindS E.k.l σ h a b) w):=by
 have hl:h<σ.length:=by rw [hi.n];exact hh
 cases ho:σ[h] with
 | some q=>exact wy_bind_old E ok w σ hi h hh a b h1 h2 q (by rw [List.getElem?_eq_getElem hl,ho])
 | none=>exact wy_bind_new E ok w σ hi h hh a b h1 h2 (by rw [List.getElem?_eq_getElem hl,ho])
end Go.Proofs.YtlkheofphafofaaGreatDoor
namespace Go.Proofs.YtlkheofphafofaaGreatDoor
set_option linter.all false
attribute [local irreducible] Calls
attribute [local irreducible] wpStill
open Go.RowKit

def LF (E:WyE) (h:Nat):Nat:=E.ns.getD h 0
def WPartC (E:WyE) (n:Nat):Prop:=∀ (w:World) (σ:MSt) (p i:Nat),WyIn E σ w→p<E.k.f.length→i<E.k.l.length→2*(endB E.k.f p-p)≤n →
 Calls Tryz.prog 42 #[.pointer (some ⟨E.k.g,0,none⟩),.int .i64 (p:Int),.int .i64 (i:Int)] w (wayPost E (fPart E.k.f E.k.l E.k.hs (LF E) n p i σ) w)
theorem wayPost.bool {E:WyE} {o:Option MSt} {w w':World} {e:Ending} (h:wayPost E o w e w'):∃ y,e=.returned (.bool y):=by
 obtain ⟨_,⟨τ,_,he,_⟩ | ⟨_,he⟩⟩:=h.out
 ·exact ⟨true,he⟩
 ·exact ⟨false,he⟩
theorem kind_bounds (E:WyE) (ok:WyOK E) {h i:Nat} (hh:h<E.k.hs.length) (hil:i<E.k.l.length):hkind E.k.hs h=(E.k.hs[h]).2∧(isSev (hkind E.k.hs h)=false→1≤hkind E.k.hs h∧hkind E.k.hs h≤5)∧kindAt E.k.l i<256∧kindAt E.k.l i=(E.k.l[i]).1:=by
 have e:hkind E.k.hs h=(E.k.hs[h]).2:=by unfold hkind;rw [List.getElem?_eq_getElem hh]
 have e2:kindAt E.k.l i=(E.k.l[i]).1:=by unfold kindAt;rw [List.getElem?_eq_getElem hil]
 refine ⟨e,fun hsev=>?_,by rw [e2];exact (ok.lk.2 _ (List.getElem_mem hil)).1,e2⟩
 have:=ok.hr _ (List.getElem_mem hh)
 rw [e] at hsev ⊢
 unfold isSev at hsev
 simp at hsev
 omega
set_option maxRecDepth 100000 in
set_option maxHeartbeats 16000000 in
theorem wy_part_one (E:WyE) (ok:WyOK E) (n:Nat) (w:World) (σ:MSt) (p i:Nat) (hi:WyIn E σ w) (hp:p<E.k.f.length) (hil:i<E.k.l.length) (h:Nat) (ho:oneOf E.k.f E.k.hs p=some h) :
  Calls Tryz.prog 42 #[.pointer (some ⟨E.k.g,0,none⟩),.int .i64 (p:Int),.int .i64 (i:Int)] w (wayPost E (fPart E.k.f E.k.l E.k.hs (LF E) (n+1) p i σ) w):=by
 have hsp:fPart E.k.f E.k.l E.k.hs (LF E) (n+1) p i σ=if mayB (hkind E.k.hs h) (kindAt E.k.l i) then bindS E.k.l σ h i (endB E.k.l i) else none:=by rw [fPart,ho]
 rw [hsp]
 obtain ⟨Q,hQ⟩:∃ Q,wayPost E (if mayB (hkind E.k.hs h) (kindAt E.k.l i) then bindS E.k.l σ h i (endB E.k.l i) else none) w=Q:=⟨_,rfl⟩
 have HQ:RowKit.Hid (∀ e w',wayPost E (if mayB (hkind E.k.hs h) (kindAt E.k.l i) then bindS E.k.l σ h i (endB E.k.l i) else none) w e w'→Q e w'):=Hd fun e w' h=>by rw [← hQ];exact h
 rw [hQ]
 clear hQ hsp
 obtain ⟨hsev,hho,_⟩:=oneOf_one E.k.f E.k.hs ho
 have hh:=hole_lt E.k.f E.k.hs hho
 obtain ⟨hk1,hk5,hkl,hk2⟩:=kind_bounds E ok hh hil
 have hk5:=hk5 hsev
 have hfl:=ok.fl
 have hll:=ok.ll
 have hhn:=ok.hn
 have hg:=endB_gt (well_rows ok.hl) hil
 have CM:=Hd (fun W=>ref_May17 _ _ hk5.1 hk5.2 hkl W)
 have CB:=Hd (fun W (hs:WyIn E σ W)=>wy_bind E ok W σ hs h hh i (endB E.k.l i) (by omega) hg.2)
 have C1:=Hd (ref_Hole E.k.f E.k.hs hfl hhn p hp _ _ w hi.st.now.f hi.st.now.h)
 rw [hho] at C1
 simp only [holeI] at C1
 have CE:=Hd (fun W (hk:KeptX E.k w W)=>ref_End11 E.k.l (by omega) _ i (by omega) W (hi.st W hk).l)
 rw [endR_end (well_rows ok.hl) hil] at CE
 simp only [endI] at CE
 obtain ⟨kb,ko,kc,hvh,hkc,HK⟩:=hi.st.holes (show 0<E.k.hs.length by omega)
 obtain ⟨lb,lo,lc,hvl,hlc,HL⟩:=WyStat.parts (E:=E) (w:=w) (L:=E.k.l) (v:=E.k.vl) (fun w' hk=>(hi.st w' hk).l) (by omega)
 obtain ⟨fa,fc,hvf,hfc⟩:=hi.st.now.f.slice
 have C2:=Hd (fun W=>ref_Several (E.k.hs[h]).1 (E.k.hs[h]).2 W)
 rw [← hk1,hsev] at C2
 have HS:RowKit.Hid (∀ W,KeptX E.k w W→W.cell? ⟨E.k.g,2,none⟩=some (.slice (some ⟨kb,ko,none⟩) E.k.hs.length kc)∧W.cell? ⟨kb,ko+h*2+1,none⟩=some (.int .u8 (hkind E.k.hs h:Int))∧W.cell? ⟨E.k.g,5,none⟩=some (.slice (some ⟨lb,lo,none⟩) E.k.l.length lc)∧W.cell? ⟨lb,lo+i*3,none⟩=some (.int .u8 (kindAt E.k.l i:Int))∧RowKit.Hid (KeptX E.k w W)):=Hd fun W hk=>⟨by rw [(hi.st W hk).cells.2.2.1,hvh],by rw [hk1];exact (HK W hk h hh).2,by rw [(hi.st W hk).cells.2.2.2.2.2.1,hvl],by rw [hk2];exact (HL W hk i hil).1,Hd hk⟩
 have HN:RowKit.Hid (∀ W,KeptX E.k w W→W.cell? ⟨kb,ko+h*2,none⟩=some (.string (E.k.hs[h]).1)):=Hd fun W hk=>(HK W hk h hh).1
 have c3:w.cell? ⟨E.k.g,3,none⟩=some (.slice fa E.k.f.length fc):=by rw [hi.st.now.cells.2.2.2.1,hvf]
 have c2:w.cell? ⟨E.k.g,2,none⟩=some (.slice (some ⟨kb,ko,none⟩) E.k.hs.length kc):=by rw [hi.st.now.cells.2.2.1,hvh]
 have HI:=Hd hi
 have hh0:(0:Int)≤(h:Int):=by omega
 have hhl:(h:Int)<E.k.hs.length:=by omega
 have hhk:(h:Int)<(kc:Int):=by omega
 have hi0:(0:Int)≤(i:Int):=by omega
 have hill:(i:Int)<E.k.l.length:=by omega
 have hilc:(i:Int)<(lc:Int):=by omega
 rw [hvf,hvh] at C1
 rw [hvl] at CE
 clear hi hk5 hkl ho hho hsev hk1 hk2 HK HL hvf hvh hvl hg
 generalize hkind E.k.hs h=x at *
 generalize kindAt E.k.l i=y at *
 generalize endB E.k.l i=z at *
 generalize (E.k.hs[h]).1=nm at *
 go_enter Tryz.func42,Tryz.ntmps42
 go_wp2_with fail
 refine C1.out.mono ?_
 rintro e w1 ⟨rfl,hb1⟩
 have HB1:=Hd hb1
 obtain ⟨d2,d1,_⟩:=HS.out w1 (KeptX.of_below hb1)
 have d0:=HN.out w1 (KeptX.of_below hb1)
 clear hb1 C1 c2 c3
 go_wp2_with fail
 refine (C2.out _).mono ?_
 rintro e w2 ⟨rfl,hb2⟩
 have HB2:=Hd (bthen HB1.out hb2)
 clear hb2 C2 d0 d1 d2 HB1
 go_upto_region 4 with (fail)
 have HKD:RowKit.Hid (KeptX E.k w w2.drew):=Hd (KeptX.of_below HB2.out.drew)
 have HID:RowKit.Hid (WyIn E σ w2.drew):=Hd (HI.out.below HB2.out.drew)
 have HSA:=Hd (HS.out _ HKD.out)
 cases hm:mayB x y with
 | true =>
  rw [hm] at HQ CM
  rw [if_pos rfl] at HQ
  clear hm
  go_region_held3 (fun W=>W.cell? ⟨E.k.g,2,none⟩=some (.slice (some ⟨kb,ko,none⟩) E.k.hs.length kc)∧W.cell? ⟨kb,ko+h*2+1,none⟩=some (.int .u8 (x:Int))∧W.cell? ⟨E.k.g,5,none⟩=some (.slice (some ⟨lb,lo,none⟩) E.k.l.length lc)∧W.cell? ⟨lb,lo+i*3,none⟩=some (.int .u8 (y:Int))∧RowKit.Hid (KeptX E.k w W)) (first | exact HSA.out | exact HS.out _ (HKD.out.trans hk6)) (first | ((go_at_call 23;(with_reducible refine (CM.out _).mono ?_);(rintro e w4 ⟨rfl,rfl⟩);(try dsimp only))) | ((go_at_call 20;(with_reducible refine (CE.out _ HKD.out).mono ?_);(rintro e w5 ⟨rfl,rfl⟩);(try dsimp only))) | ((go_at_call 64;(with_reducible refine (CB.out _ HID.out).mono ?_);(intro e w6 h6;obtain ⟨v,rfl⟩:=h6.bool;have hk6:=h6.out.1);(try dsimp only))))
  all_goals
   have HX:=Hd (HQ.out _ _ (h6.from HKD.out))
   clear h6
   go_wp2_with fail
   exact HX.out
 | false =>
  rw [hm] at HQ CM
  rw [if_neg (by simp)] at HQ
  clear hm
  refine wp_region_noPanic ?_
  refine wp_region_held_drew (S:=fun W=>W.cell? ⟨E.k.g,2,none⟩=some (.slice (some ⟨kb,ko,none⟩) E.k.hs.length kc)∧W.cell? ⟨kb,ko+h*2+1,none⟩=some (.int .u8 (x:Int))∧W.cell? ⟨E.k.g,5,none⟩=some (.slice (some ⟨lb,lo,none⟩) E.k.l.length lc)∧W.cell? ⟨lb,lo+i*3,none⟩=some (.int .u8 (y:Int))∧RowKit.Hid (KeptX E.k w W)) (by kernel_rfl) HSA.out (fun hHeldA=>?_)
  refine wpAnyH_take (i:=0) (oi:=_) (v:=?vA0) rfl (by kernel_rfl) (by kernel_rfl) (by kernel_rfl) (fun _ _ _ h=>h) (Or.inl ⟨by kernel_rfl,?hyA0⟩) hHeldA ?restA0
  case hyA0=>intro w hSw;(try dsimp only at hSw);go_simp;(try with_reducible rfl)
  (try simp only [Act.put,List.setIfInBounds_toArray,List.set_cons_zero,List.set_cons_succ])
  refine wpAnyH_take (i:=1) (oi:=_) (v:=?vA1) rfl (by kernel_rfl) (by kernel_rfl) (by kernel_rfl) (fun _ _ _ h=>h) (Or.inl ⟨by kernel_rfl,?hyA1⟩) hHeldA ?restA1
  case hyA1=>intro w hSw;(try dsimp only at hSw);go_simp;(try with_reducible rfl)
  (try simp only [Act.put,List.setIfInBounds_toArray,List.set_cons_zero,List.set_cons_succ])
  refine wpAnyH_take (i:=2) (oi:=_) (v:=?vA2) rfl (by kernel_rfl) (by kernel_rfl) (by kernel_rfl) (fun _ _ _ h=>h) (Or.inl ⟨by kernel_rfl,?hyA2⟩) hHeldA ?restA2
  case hyA2=>intro w hSw;(try dsimp only at hSw);go_simp;(try with_reducible rfl)
  (try simp only [Act.put,List.setIfInBounds_toArray,List.set_cons_zero,List.set_cons_succ])
  refine wpAnyH_take (i:=3) (oi:=_) (v:=?vA3) rfl (by kernel_rfl) (by kernel_rfl) (by kernel_rfl) (fun _ _ _ h=>h) (Or.inl ⟨by kernel_rfl,?hyA3⟩) hHeldA ?restA3
  case hyA3=>intro w hSw;(try dsimp only at hSw);go_simp;(try with_reducible rfl)
  (try simp only [Act.put,List.setIfInBounds_toArray,List.set_cons_zero,List.set_cons_succ])
  refine wpAnyH_take (i:=4) (oi:=_) (v:=?vA4) rfl (by kernel_rfl) (by kernel_rfl) (by kernel_rfl) (fun _ _ _ h=>h) (Or.inl ⟨by kernel_rfl,?hyA4⟩) hHeldA ?restA4
  case hyA4=>intro w hSw;(try dsimp only at hSw);go_simp;(try with_reducible rfl)
  (try simp only [Act.put,List.setIfInBounds_toArray,List.set_cons_zero,List.set_cons_succ])
  refine wpAnyH_take (i:=5) (oi:=_) (v:=?vA5) rfl (by kernel_rfl) (by kernel_rfl) (by kernel_rfl) (fun _ _ _ h=>h) (Or.inl ⟨by kernel_rfl,?hyA5⟩) hHeldA ?restA5
  case hyA5=>intro w hSw;(try dsimp only at hSw);go_simp;(try with_reducible rfl)
  (try simp only [Act.put,List.setIfInBounds_toArray,List.set_cons_zero,List.set_cons_succ])
  refine wpAnyH_take (i:=6) (oi:=_) (v:=?vA6) rfl (by kernel_rfl) (by kernel_rfl) (by kernel_rfl) (fun _ _ _ h=>h) (Or.inl ⟨by kernel_rfl,?hyA6⟩) hHeldA ?restA6
  case hyA6=>intro w hSw;(try dsimp only at hSw);go_simp;(try with_reducible rfl)
  (try simp only [Act.put,List.setIfInBounds_toArray,List.set_cons_zero,List.set_cons_succ])
  refine wpAnyH_take (i:=7) (oi:=_) (v:=?vA7) rfl (by kernel_rfl) (by kernel_rfl) (by kernel_rfl) (fun _ _ _ h=>h) (Or.inl ⟨by kernel_rfl,?hyA7⟩) hHeldA ?restA7
  case hyA7=>intro w hSw;(try dsimp only at hSw);go_simp;(try with_reducible rfl)
  (try simp only [Act.put,List.setIfInBounds_toArray,List.set_cons_zero,List.set_cons_succ])
  refine wpAnyH_take (i:=8) (oi:=_) (v:=?vA8) rfl (by kernel_rfl) (by kernel_rfl) (by kernel_rfl) (fun _ _ _ h=>h) (Or.inl ⟨by kernel_rfl,?hyA8⟩) hHeldA ?restA8
  case hyA8=>intro w hSw;(try dsimp only at hSw);go_simp;(try with_reducible rfl)
  (try simp only [Act.put,List.setIfInBounds_toArray,List.set_cons_zero,List.set_cons_succ])
  refine wpAnyH_take (i:=9) (oi:=_) (v:=?vA9) rfl (by kernel_rfl) (by kernel_rfl) (by kernel_rfl) (fun _ _ _ h=>h) (Or.inl ⟨by kernel_rfl,?hyA9⟩) hHeldA ?restA9
  case hyA9=>intro w hSw;(try dsimp only at hSw);go_simp;(try with_reducible rfl)
  (try simp only [Act.put,List.setIfInBounds_toArray,List.set_cons_zero,List.set_cons_succ])
  refine wpAnyH_take (i:=10) (oi:=_) (v:=?vA10) rfl (by kernel_rfl) (by kernel_rfl) (by kernel_rfl) (fun _ _ _ h=>h) (Or.inl ⟨by kernel_rfl,?hyA10⟩) hHeldA ?restA10
  case hyA10=>intro w hSw;(try dsimp only at hSw);go_simp;(try with_reducible rfl)
  (try simp only [Act.put,List.setIfInBounds_toArray,List.set_cons_zero,List.set_cons_succ])
  refine wpAnyH_take (i:=11) (oi:=_) (v:=?vA11) rfl (by kernel_rfl) (by kernel_rfl) (by kernel_rfl) (fun _ _ _ h=>h) (Or.inl ⟨by kernel_rfl,?hyA11⟩) hHeldA ?restA11
  case hyA11=>intro w hSw;(try dsimp only at hSw);go_simp;(try with_reducible rfl)
  (try simp only [Act.put,List.setIfInBounds_toArray,List.set_cons_zero,List.set_cons_succ])
  refine wpAnyH_take (i:=12) (oi:=_) (v:=?vA12) rfl (by kernel_rfl) (by kernel_rfl) (by kernel_rfl) (fun _ _ _ h=>h) (Or.inl ⟨by kernel_rfl,?hyA12⟩) hHeldA ?restA12
  case hyA12=>intro w hSw;(try dsimp only at hSw);go_simp;(try with_reducible rfl)
  (try simp only [Act.put,List.setIfInBounds_toArray,List.set_cons_zero,List.set_cons_succ])
  refine wpAnyH_take (i:=13) (oi:=_) (v:=?vA13) rfl (by kernel_rfl) (by kernel_rfl) (by kernel_rfl) (fun _ _ _ h=>h) (Or.inl ⟨by kernel_rfl,?hyA13⟩) hHeldA ?restA13
  case hyA13=>intro w hSw;(try dsimp only at hSw);go_simp;(try with_reducible rfl)
  (try simp only [Act.put,List.setIfInBounds_toArray,List.set_cons_zero,List.set_cons_succ])
  refine wpAnyH_take (i:=14) (oi:=_) (v:=?vA14) rfl (by kernel_rfl) (by kernel_rfl) (by kernel_rfl) (fun _ _ _ h=>h) (Or.inl ⟨by kernel_rfl,?hyA14⟩) hHeldA ?restA14
  case hyA14=>intro w hSw;(try dsimp only at hSw);go_simp;(try with_reducible rfl)
  (try simp only [Act.put,List.setIfInBounds_toArray,List.set_cons_zero,List.set_cons_succ])
  refine wpAnyH_take (i:=15) (oi:=_) (v:=?vA15) rfl (by kernel_rfl) (by kernel_rfl) (by kernel_rfl) (fun _ _ _ h=>h) (Or.inl ⟨by kernel_rfl,?hyA15⟩) hHeldA ?restA15
  case hyA15=>intro w hSw;(try dsimp only at hSw);go_simp;(try with_reducible rfl)
  (try simp only [Act.put,List.setIfInBounds_toArray,List.set_cons_zero,List.set_cons_succ])
  refine wpAnyH_take (i:=16) (oi:=_) (v:=?vA16) rfl (by kernel_rfl) (by kernel_rfl) (by kernel_rfl) (fun _ _ _ h=>h) (Or.inl ⟨by kernel_rfl,?hyA16⟩) hHeldA ?restA16
  case hyA16=>intro w hSw;(try dsimp only at hSw);go_simp;(try with_reducible rfl)
  (try simp only [Act.put,List.setIfInBounds_toArray,List.set_cons_zero,List.set_cons_succ])
  refine wpAnyH_ready (rs:=[17]) (by kernel_rfl) (by simp) ?_
  refine AllReadyH.cons (o:=_) rfl (fun K hK=>?_) AllReadyH.nil
  go_simp
  go_at_call 23
  refine (CM.out _).mono ?_
  rintro e w4 ⟨rfl,rfl⟩
  (try dsimp only)
  refine hK.out _ _ hHeldA (fun hHeldA_1=>?_)
  clear hK K hHeldA
  (try simp only [Act.put,List.setIfInBounds_toArray,List.set_cons_zero,List.set_cons_succ])
  refine wpAnyH_take (i:=18) (oi:=_) (v:=?vA18) rfl (by kernel_rfl) (by kernel_rfl) (by kernel_rfl) (fun _ _ _ h=>h) (Or.inl ⟨by kernel_rfl,?hyA18⟩) hHeldA_1 ?restA18
  case hyA18=>intro w hSw;(try dsimp only at hSw);go_simp;(try with_reducible rfl)
  (try simp only [Act.put,List.setIfInBounds_toArray,List.set_cons_zero,List.set_cons_succ])
  refine wpAnyH_take (i:=19) (oi:=_) (v:=undef) rfl (by kernel_rfl) (by kernel_rfl) (by kernel_rfl) (fun _ _ _ h=>h) (Or.inr ⟨by kernel_rfl,rfl⟩) hHeldA_1 ?_
  (try simp only [Act.put,List.setIfInBounds_toArray,List.set_cons_zero,List.set_cons_succ])
  refine wpAnyH_take (i:=20) (oi:=_) (v:=undef) rfl (by kernel_rfl) (by kernel_rfl) (by kernel_rfl) (fun _ _ _ h=>h) (Or.inr ⟨by kernel_rfl,rfl⟩) hHeldA_1 ?_
  (try simp only [Act.put,List.setIfInBounds_toArray,List.set_cons_zero,List.set_cons_succ])
  refine wpAnyH_take (i:=21) (oi:=_) (v:=undef) rfl (by kernel_rfl) (by kernel_rfl) (by kernel_rfl) (fun _ _ _ h=>h) (Or.inr ⟨by kernel_rfl,rfl⟩) hHeldA_1 ?_
  (try simp only [Act.put,List.setIfInBounds_toArray,List.set_cons_zero,List.set_cons_succ])
  refine wpAnyH_take (i:=22) (oi:=_) (v:=undef) rfl (by kernel_rfl) (by kernel_rfl) (by kernel_rfl) (fun _ _ _ h=>h) (Or.inr ⟨by kernel_rfl,rfl⟩) hHeldA_1 ?_
  (try simp only [Act.put,List.setIfInBounds_toArray,List.set_cons_zero,List.set_cons_succ])
  refine wpAnyH_take (i:=23) (oi:=_) (v:=undef) rfl (by kernel_rfl) (by kernel_rfl) (by kernel_rfl) (fun _ _ _ h=>h) (Or.inr ⟨by kernel_rfl,rfl⟩) hHeldA_1 ?_
  (try simp only [Act.put,List.setIfInBounds_toArray,List.set_cons_zero,List.set_cons_succ])
  refine wpAnyH_take (i:=24) (oi:=_) (v:=undef) rfl (by kernel_rfl) (by kernel_rfl) (by kernel_rfl) (fun _ _ _ h=>h) (Or.inr ⟨by kernel_rfl,rfl⟩) hHeldA_1 ?_
  (try simp only [Act.put,List.setIfInBounds_toArray,List.set_cons_zero,List.set_cons_succ])
  refine wpAnyH_take (i:=25) (oi:=_) (v:=undef) rfl (by kernel_rfl) (by kernel_rfl) (by kernel_rfl) (fun _ _ _ h=>h) (Or.inr ⟨by kernel_rfl,rfl⟩) hHeldA_1 ?_
  (try simp only [Act.put,List.setIfInBounds_toArray,List.set_cons_zero,List.set_cons_succ])
  refine wpAnyH_take (i:=26) (oi:=_) (v:=undef) rfl (by kernel_rfl) (by kernel_rfl) (by kernel_rfl) (fun _ _ _ h=>h) (Or.inr ⟨by kernel_rfl,rfl⟩) hHeldA_1 ?_
  (try simp only [Act.put,List.setIfInBounds_toArray,List.set_cons_zero,List.set_cons_succ])
  refine wpAnyH_ready (rs:=[27]) (by kernel_rfl) (by simp) ?_
  refine AllReadyH.cons (o:=_) rfl (fun K hK=>?_) AllReadyH.nil
  rw [if_neg]
  rotate_left
  ·exact fun h=>Bool.noConfusion (h.symm.trans (by kernel_rfl:_=false))
  refine hK.out _ _ hHeldA_1 (fun hHeldA_2=>?_)
  clear hK K hHeldA_1
  (try simp only [Act.put,List.setIfInBounds_toArray,List.set_cons_zero,List.set_cons_succ])
  refine wpAnyH_ready (rs:=[28]) (by kernel_rfl) (by simp) ?_
  refine AllReadyH.cons (o:=_) rfl (fun K hK=>?_) AllReadyH.nil
  rw [if_neg]
  rotate_left
  ·exact fun h=>Bool.noConfusion (h.symm.trans (by kernel_rfl:_=false))
  refine hK.out _ _ hHeldA_2 (fun hHeldA_3=>?_)
  clear hK K hHeldA_2
  (try simp only [Act.put,List.setIfInBounds_toArray,List.set_cons_zero,List.set_cons_succ])
  refine wpAnyH_take (i:=29) (oi:=⟨some 71,_,_,_,_,_⟩) (v:=?vA29) rfl (by kernel_rfl) (by kernel_rfl) (by kernel_rfl) (fun _ _ _ h=>h) (Or.inl ⟨by kernel_rfl,?hyA29⟩) hHeldA_3 ?restA29
  case hyA29=>intro w hSw;(try dsimp only at hSw);go_simp;(try with_reducible rfl)
  (try simp only [Act.put,List.setIfInBounds_toArray,List.set_cons_zero,List.set_cons_succ])
  refine wpAnyH_take (i:=30) (oi:=⟨some 6,_,_,_,_,_⟩) (v:=?vA30) rfl (by kernel_rfl) (by kernel_rfl) (by kernel_rfl) (fun _ _ _ h=>h) (Or.inl ⟨by kernel_rfl,?hyA30⟩) hHeldA_3 ?restA30
  case hyA30=>intro w hSw;(try dsimp only at hSw);go_simp;(try with_reducible rfl)
  (try simp only [Act.put,List.setIfInBounds_toArray,List.set_cons_zero,List.set_cons_succ])
  refine wpAnyH_done (by kernel_rfl) ?_ _
  refine NoPanic.normal ?_
  have HX:=Hd (HQ.out _ _ (wayPost.no rfl HKD.out))
  go_wp2_with fail
  exact HX.out
end Go.Proofs.YtlkheofphafofaaGreatDoor
namespace Go.Proofs.YtlkheofphafofaaGreatDoor
set_option linter.all false
open Go.RowKit

@[irreducible] def kidsOwn (ks:List Nat) (w0:World) (e:Ending) (w':World):Prop :=
 ∃ v,e=.returned v∧Below w0.heap.size w0 w'∧w'.ownsRow w0.heap.size 3 1 v ks.length (natV ks)
set_option maxRecDepth 100000 in
set_option maxHeartbeats 8000000 in
theorem ref_KidsOwn (l:List Prt) (hl:l.length≤1000000000) (us:List Nat) (hus:rowsB l=some us) (v:Value) (i:Nat) (hi:i<l.length) (w:World) (hr:PartRow w v l) :
  Calls Tryz.prog 50 #[v,.int .i64 (i:Int)] w (kidsOwn (kidsB l i) w):=by
 have HQ:RowKit.Hid (∀ v' w',Below w.heap.size w w'→w'.ownsRow w.heap.size 3 1 v' (kidsB l i).length (natV (kidsB l i))→kidsOwn (kidsB l i) w (.returned v') w'):=Hd fun v' w' h2 h3=>by
  unfold kidsOwn;exact ⟨v',rfl,h2,h3⟩
 have HR:=Hd hr
 obtain ⟨va,vcap,rfl,hvc⟩:=hr.slice
 clear hr
 obtain ⟨ts,q,f1,f2,f3,f4,f5⟩:=kids_facts hus hi
 have HST:=Hd (fun n (hn:n<q)=>kid_step hus f1 f3 hn)
 have HCE:=Hd (fun (W':World) (hb:Below w.heap.size w W') k (hk:k<l.length)=>show Calls Tryz.prog 20 #[.slice va l.length vcap,.int .i64 (k:Int)] W' fun e w'=>e=.returned (.int .i64 (endB l k:Int))∧W'=w' by
  have:=ref_End11 l hl _ k (by omega) W' (HR.out.below hb)
  rw [endR_end hus hk] at this
  exact this)
 have HK5:=Hd f5
 have HE4:=Hd f4
 have HQT:=Hd f3
 have hqt:ts.length≤l.length:=by have:=(rowsB_sum f1).2.1;rw [List.length_drop] at this;omega
 have hqb:q≤1000000000:=by omega
 have hee:=(endB_gt hus hi).2
 rw [f4] at hee
 obtain ⟨b,off,rfl,_,_,_,hcell⟩:=HR.out.at (Below.refl _ _) (show 0<l.length by omega)
 have hc1:=(hcell i hi).2.1
 rw [f2] at hc1
 have HC:RowKit.Hid (∀ W',Below w.heap.size w W'→W'.cell? ⟨b,off+i*3+1,none⟩=some (.int .i64 (q:Int))):=Hd fun W' hb=>by
  obtain ⟨b',off',hbb,_,_,_,hcc⟩:=HR.out.at hb (show 0<l.length by omega)
  simp only [Option.some.injEq,Addr.mk.injEq,and_true] at hbb
  obtain ⟨rfl,rfl⟩:=hbb
  rw [(hcc i hi).2.1,f2]
 generalize kidsOwn (kidsB l i) w=Q at *
 have hji:(i:Int)<l.length:=by omega
 have hj0:(0:Int)≤i:=by omega
 have hjc:(i:Int)<vcap:=by omega
 have hwj:IntKind.i64.wrap ((i:Int)+1)=(i:Int)+1:=by rw [IntKind.wrap_i64];omega
 clear f1 f2 f3 f4 f5 hcell hc1
 go_enter Tryz.func50,Tryz.ntmps50
 go_wp2_with fail
 go_loopw [5,6,7] (fun v k c wr=>∃ n:Nat,c=.int .i64 (n:Int)∧n≤q∧k=.int .i64 ((i+1+(ts.take n).sum:Nat):Int)∧wr.ownsRow w.heap.size 3 1 v n (((starts (i+1) ts).take n).map fun (x:Nat)=>Value.int .i64 (x:Int))∧Below w.heap.size w wr) (fun _ _ c _=>q-(intOf c).toNat)
 case atStart=>exact ⟨0,rfl,Nat.zero_le _,by simp,World.ownsRow_nil _ _ _ _,Below.refl _ _⟩
 case round =>
  obtain ⟨n,rfl,hn,rfl,ho,hb⟩:=hrel
  have HO:=Hd ho
  have HB:=Hd hb
  have HNN:=Hd hn
  obtain ⟨_,oa,oc,rfl,_,_,_⟩:=Row.of_owns ho
  have d0:=HC.out _ HB.out
  have hbs:=hb.size
  clear ho hb hn
  by_cases hlt:n<q
  ·obtain ⟨g1,g2,g3,g4,g5,g6⟩:=HST.out n hlt
   have HG3:=Hd g3
   have hlt':(n:Int)<q:=by omega
   have hC:=fun W' hb=>HCE.out W' hb _ g1
   rw [g2] at hC
   have HCK:=Hd hC
   have hnb:n≤1000000000:=by omega
   have HN1:RowKit.Hid (n+1≤q):=Hd hlt
   have HMS:RowKit.Hid (q-(n+1)<q-n):=Hd (by omega)
   have hwn:IntKind.i64.wrap ((n:Int)+1)=(n:Int)+1:=by rw [IntKind.wrap_i64];omega
   clear g1 g2 g3 g4 g5 g6 hC
   generalize hK1:i+1+(ts.take n).sum=K1 at *
   generalize hK2:i+1+(ts.take (n+1)).sum=K2 at *
   have HK2:=Hd hK2
   clear hK1 hK2
   go_wp2_with (at_builtin;refine wpList_append_lit wr #[.int .i64 (K1:Int)] _ rfl _ _ 49 3 rfl Tryz.underlying49 w.heap.size Tinfo_int rfl (by decide) _ _ _ rfl HO.out 1 1 rfl rfl (by decide) (by intro u hu;simp at hu;subst hu;rfl) (by omega) (by omega) hbs ?_)
   intro v' w' hown hgr _
   have hb':=grown_below HB.out hbs HO.out hgr
   have CK:=Hd (HCK.out w' hb')
   have HRL:RowKit.Hid (w'.ownsRow w.heap.size 3 1 v' (n+1) (((starts (i+1) ts).take (n+1)).map fun (x:Nat)=>Value.int .i64 (x:Int))∧Below w.heap.size w w'):=Hd ⟨by have h:=hown;rw [HG3.out];simpa using h,hb'⟩
   obtain ⟨_,va',vc',rfl,_,_,_⟩:=Row.of_owns hown
   clear hown hgr hb' d0
   go_wp2_with fail
   refine CK.out.mono ?_
   rintro e w2 ⟨rfl,rfl⟩
   go_wp2_with fail
   refine ⟨⟨n+1,congrArg (Value.int .i64) (by omega),HN1.out,by rw [HK2.out],HRL.out.1,HRL.out.2⟩,?_⟩
   have:=HMS.out
   simp only [intOf]
   omega
  ·have hnq:n=q:=by have:=HNN.out;omega
   subst hnq
   have HRW:RowKit.Hid (wr.ownsRow w.heap.size 3 1 (.slice oa n oc) (kidsB l i).length (natV (kidsB l i))):=Hd (by
    have e:(kidsB l i).length=n:=by rw [HK5.out,List.length_take,starts_length];have:=HQT.out;omega
    rw [e,HK5.out];exact HO.out)
   go_wp2_with fail
   exact HQ.out _ _ HB.out HRW.out
end Go.Proofs.YtlkheofphafofaaGreatDoor
