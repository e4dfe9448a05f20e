/- Layer 15: the copier's put, walked. -/
import Derived.Test.YtfalelkfhandfaaGreatDoorPackMs
import Derived.Test.YtfalelkfhandfaaGreatDoorKpMMs
import Derived.Test.YtfalelkfhandfaaGreatDoorStepPMs
import Derived.Test.YtfalelkfhandfaaGreatDoorStillMs
import Derived.Deep.RegionHeld3
namespace Go.Proofs.YtfalelkfhandfaaGreatDoor
set_option maxRecDepth 100000
set_option maxHeartbeats 32000000
set_option linter.all false
attribute [local irreducible] Calls
attribute [local irreducible] wpStill
open Go.RowKit

structure CpF (w0:World) (E:CpE):Prop where
 L:zD w0 E.vl E.l
 F:zI w0 E.vf .i64 E.fr
 w:zZ E.l=true
 n:E.fr.length=E.l.length
 s:SmallL E.l
 M:MaxC w0
@[irreducible] def cpPost (w0:World) (E:CpE) (out:List Prt) (ns:List Int) (ov nv:Value) (M:List PN) (j:Nat) (W:World) (e:Ending) (w':World):Prop :=
 ∃ ov' nv' v,e=.returned v∧CpIn w0 E (out++M.map (·.1)) (ns++M.map (·.2)) j ov' nv' w'∧KpC E.g ov nv ov' nv' W w'
theorem yP {P:Program} {w w':World} {o:Oper} {a:Act} {K:Act→World→Prop} {Q:Exit→Act→World→Prop} (s x:Operand) (t u:TypeId) {v src v':Value} {ty:TypeId}
  (hrun:(Builtin.append_ #[t,u] ty #[v,src]).run P w=.ok v' w') (ho:o.op=.call { callee:=.builtin .append,args:=#[s,x],argTypes:=#[t,u] }) (hty:o.type=ty)
  (hs:a.eval s=v) (hx:a.eval x=src) (h:K (a.put o.dst v') w'):Oper.wp P o a w K Q:=by
 subst hty
 unfold Oper.wp
 simp [execOp,ho,resolve,invoke,builtin,hs,hx,hrun,Result.andThen]
 exact h
abbrev NormalInC (R:Act→World→Prop):Exit→Act→World→Prop:=fun e a w=>match e with
 | .normal=>R a w
 | _=>False
theorem zBe {P:Program} {id:Nat} {ops:Array Oper} {a:Act} {w:World} {Q:Exit→Act→World→Prop} (F:Act→Act→World→Prop) (h1:(Code.region id ops true).wp P (NormalInC (F a)) a w) (h2:∀ a' w',F a a' w'→Q .normal a' w'):(Code.region id ops true).wp P Q a w :=
 Code.wp_mono (fun e a' w' h=>by cases e <;> first | exact h2 _ _ h | cases h) h1
theorem pk3 {W:World} {g:Nat} {k:Nat} {n:Int} {s:ByteArray} (h:PK W g (k,n,s)):W.cell? ⟨g,0,none⟩=some (.int .u8 (k:Int))∧W.cell? ⟨g,1,none⟩=some (.int .i64 n)∧W.cell? ⟨g,2,none⟩=some (.string s):=⟨h.c0,h.c1,h.c2⟩
theorem zBf {W w1:World} {g c b:Nat} {p:Prt} {ov nv ov' nv' u:Value} (h:PK W b p) (hk:KpC g ov nv ov' nv' W (w1.setCell ⟨g,c,none⟩ u)) (h1:b≠g) (h2:ov.ownBlock≠some b) (h3:nv.ownBlock≠some b):PK w1 b p∧PK (w1.setCell ⟨g,c,none⟩ u) b p:=by
 have e:=hk.low b (lt_of_block h) h1 h2 h3
 have e2:PK (w1.setCell ⟨g,c,none⟩ u) b p:=by unfold PK at *;rw [e];exact h
 refine ⟨?_,e2⟩
 unfold PK at *
 rw [heap_setCell_other _ _ _ _ h1] at e2
 exact e2
theorem zPv {W w1:World} {g b:Nat} {p:Prt} {ov nv ov' nv':Value} (h:PK W b p) (hk:KpC g ov nv ov' nv' W w1) (h2:ov.ownBlock≠some b):ov'.ownBlock≠some b:=fun e=>by
 have hl:=lt_of_block h
 rcases hk.no b e with e | e
 ·exact h2 e
 ·omega
def PutC (w0:World) (E:CpE) (n:Nat):Prop:=∀ (W:World) (out:List Prt) (ns:List Int) (i:Nat) (ov nv:Value),CpIn w0 E out ns i ov nv W→i<E.l.length→2*(zC E.l i-i)≤n→out.length+(gPart E.l E.fr n i).length≤1000000000→ns.length=out.length →
 Calls Tryz.prog 43 #[.pointer (some ⟨E.g,0,none⟩)] W (cpPost w0 E out ns ov nv (gPart E.l E.fr n i) (zC E.l i) W)
def EachC (w0:World) (E:CpE) (n:Nat):Prop:=∀ (W:World) (out:List Prt) (ns:List Int) (i:Nat) (ov nv:Value),CpIn w0 E out ns (i+1) ov nv W→i<E.l.length→2*(zC E.l i-(i+1))+1≤n→out.length+(gKids E.l E.fr n (zR E.l i) 0 (i+1) (zC E.l i)).length≤1000000000→ns.length=out.length →
 Calls Tryz.prog 64 #[.pointer (some ⟨E.g,0,none⟩),partA (zR E.l i),.func (.func 43) #[.pointer (some ⟨E.g,0,none⟩)] #[]] W (cpPost w0 E out ns ov nv (gKids E.l E.fr n (zR E.l i) 0 (i+1) (zC E.l i)) (zC E.l i) W)
theorem yBa (w0:World) (E:CpE) (F:CpF w0 E) (n:Nat) (ihE:EachC w0 E n) (W:World) (out:List Prt) (ns:List Int) (i:Nat) (ov nv:Value) (hi:CpIn w0 E out ns i ov nv W) (hil:i<E.l.length) (hfu:2*(zC E.l i-i)≤n+1) (hlen:out.length+(gPart E.l E.fr (n+1) i).length≤1000000000) (hns:ns.length=out.length) :
  Calls Tryz.prog 43 #[.pointer (some ⟨E.g,0,none⟩)] W (cpPost w0 E out ns ov nv (gPart E.l E.fr (n+1) i) (zC E.l i) W):=by
 rw [gPart] at hlen ⊢
 rw [List.length_cons] at hlen
 have hg:=zN (zK F.w) hil
 have hpt:zR E.l i=E.l[i]:=by unfold zR;simp [List.getD_eq_getElem?_getD,hil]
 have hfi:i<E.fr.length:=by rw [F.n];exact hil
 have hpn:pnAt E.l E.fr i=(zR E.l i,E.fr[i]):=by unfold pnAt zR;simp [List.getD_eq_getElem?_getD,hfi]
 obtain ⟨c0,c1,c2,c3,c4,cz⟩:=hi.s.cells
 have hLr:=F.L
 have hFr:=F.F
 obtain ⟨la,lc,hvl,hlc⟩:=F.L.slice
 obtain ⟨fa,fc,hvf,hfc,_⟩:=F.F.open'
 rw [hvl] at hLr c0
 rw [hvf] at hFr c1
 obtain ⟨lb,lo,rfl,y1,y2,y3,y4⟩:=hLr.at (Below.refl _ _) (show 0<E.l.length by omega)
 clear y1 y2 y3 y4
 obtain ⟨fb,fo,rfl,y1,y2,y4⟩:=zAz hFr (Below.refl _ _) (show 0<E.fr.length by omega)
 clear y1 y2 y4
 have HCL:Hid (∀ W',Below W.heap.size W W'→W'.cell? ⟨lb,lo+i*3,none⟩=some (.int .u8 ((zR E.l i).1:Int))∧W'.cell? ⟨lb,lo+i*3+1,none⟩=some (.int .i64 (zR E.l i).2.1)∧W'.cell? ⟨lb,lo+i*3+2,none⟩=some (.string (zR E.l i).2.2)):=Hd fun W' hb=>by
  obtain ⟨b2,o2,e',_,_,_,hcc⟩:=hLr.at (zB hi.b hb) (show 0<E.l.length by omega)
  simp only [Option.some.injEq,Addr.mk.injEq,and_true] at e'
  obtain ⟨rfl,rfl⟩:=e'
  rw [hpt]
  exact hcc i hil
 have HCF:Hid (∀ W',Below w0.heap.size w0 W'→W'.cell? ⟨fb,fo+i,none⟩=some (.int .i64 E.fr[i])):=Hd fun W' hb=>by
  obtain ⟨b2,o2,e',_,_,hcc⟩:=zAz hFr hb (show 0<E.fr.length by omega)
  simp only [Option.some.injEq,Addr.mk.injEq,and_true] at e'
  obtain ⟨rfl,rfl⟩:=e'
  exact hcc i _ (List.getElem?_eq_getElem hfi)
 have hgl:=zP hi.s
 have hfb:fb<w0.heap.size:=by
  have h:=HCF.out w0 (Below.refl _ _)
  apply Classical.byContradiction
  intro hc
  simp [World.cell?,Array.getElem?_eq_none (show w0.heap.size≤fb by omega)] at h
 have hg0:=hi.g0
 have HSF:Hid (∀ W' o' n' ov' nv',CpIn w0 E o' n' i ov' nv' W'→W'.cell? ⟨E.g,1,none⟩=some (.slice (some ⟨fb,fo,none⟩) E.fr.length fc)∧W'.cell? ⟨E.g,4,none⟩=some (.int .i64 (i:Int))∧W'.cell? ⟨fb,fo+i,none⟩=some (.int .i64 E.fr[i])):=Hd fun W' o' n' ov' nv' hc=>⟨by rw [hc.s.cells.2.1,hvf],hc.s.cells.2.2.2.2.1,HCF.out W' hc.b⟩
 have HSG:Hid (∀ W' ov' nv' u,cpB E ov' nv' i W'→Below w0.heap.size w0 (W'.setCell ⟨E.g,3,none⟩ u)→W'.cell? ⟨E.g,1,none⟩=some (.slice (some ⟨fb,fo,none⟩) E.fr.length fc)∧W'.cell? ⟨E.g,4,none⟩=some (.int .i64 (i:Int))∧W'.cell? ⟨fb,fo+i,none⟩=some (.int .i64 E.fr[i])):=Hd fun W' ov' nv' u hc hb=>⟨by rw [hc.cells.2.1,hvf],hc.cells.2.2.2.2.1,by
  have h:=HCF.out _ hb
  have hne:fb≠(⟨E.g,3,none⟩:Addr).block:=by show fb≠E.g;omega
  unfold World.cell? at h ⊢
  rw [heap_setCell_other _ _ _ _ hne] at h
  exact h⟩
 have hfl:(i:Int)<E.fr.length:=by omega
 have hflc:(i:Int)<(fc:Int):=by omega
 have hi9:(i:Int)+1≤9223372036854775807:=by have:=F.s.1;omega
 unfold EachC at ihE
 have HEI:=Hd (fun W' o' n' ov' nv'=>ihE W' o' n' i ov' nv')
 have HS0:Hid (∀ W',Below W.heap.size W W'→W'.cell? ⟨E.g,0,none⟩=some (.slice (some ⟨lb,lo,none⟩) E.l.length lc)∧W'.cell? ⟨E.g,4,none⟩=some (.int .i64 (i:Int))∧W'.cell? ⟨lb,lo+i*3,none⟩=some (.int .u8 ((zR E.l i).1:Int))∧W'.cell? ⟨lb,lo+i*3+1,none⟩=some (.int .i64 (zR E.l i).2.1)∧W'.cell? ⟨lb,lo+i*3+2,none⟩=some (.string (zR E.l i).2.2)):=Hd fun W' hb=>⟨by rw [hb.cell (p:=⟨E.g,0,none⟩) hgl];exact c0,by rw [hb.cell (p:=⟨E.g,4,none⟩) hgl];exact c4,HCL.out W' hb⟩
 have HI:=Hd hi
 have HF:=Hd F
 have hi0:(0:Int)≤(i:Int):=by omega
 have hill:(i:Int)<E.l.length:=by omega
 have hilc:(i:Int)<(lc:Int):=by omega
 have hpn':=Hd hpn
 have hNS:=Hd hns
 have hLN:=Hd hlen
 have hFU:=Hd hfu
 clear hi F ihE hvl hvf hLr hFr hg0 c0 c1 c2 c3 c4 cz hpt hpn hns hlen hfu
 generalize E.fr[i]=fz at *
 generalize zR E.l i=pp at *
 obtain ⟨pk,pn,pw⟩:=pp
 simp only [] at HS0 HCL
 go_enter Tryz.func43,Tryz.ntmps43
 go_upto_region 0 with (fail)
 go_region_held3 (fun W'=>W'.cell? ⟨E.g,0,none⟩=some (.slice (some ⟨lb,lo,none⟩) E.l.length lc)∧W'.cell? ⟨E.g,4,none⟩=some (.int .i64 (i:Int))∧W'.cell? ⟨lb,lo+i*3,none⟩=some (.int .u8 (pk:Int))∧W'.cell? ⟨lb,lo+i*3+1,none⟩=some (.int .i64 pn)∧W'.cell? ⟨lb,lo+i*3+2,none⟩=some (.string pw)) (first | exact HS0.out _ (Below.refl _ _).drew | exact HS0.out _ ((Below.refl _ _).drew.alloc (Nat.le_refl _) _) | exact HS0.out _ ((Below.refl _ _).alloc (Nat.le_refl _) _).drew | exact HS0.out _ ((((Below.refl _ _).alloc (Nat.le_refl _) _).drew.setCell (by simp) _).setCell (by simp) _) | exact HS0.out _ (((((Below.refl _ _).alloc (Nat.le_refl _) _).drew.setCell (by simp) _).setCell (by simp) _).setCell (by simp) _)) (fail)
 have HBX:=Hd (((Below.refl W.heap.size W).alloc (Nat.le_refl _) (.cells #[.int .u8 (pk:Int),.int .i64 pn,.string pw] 38)).drew)
 have HP1:Hid (PK (W.alloc (.cells #[.int .u8 (pk:Int),.int .i64 pn,.string pw] 38)).drew W.heap.size (pk,pn,pw)):=Hd ((PK.alloc_new W (pk,pn,pw)).keep (Below.refl _ _).drew)
 have HC1:=Hd (HI.out.below HBX.out)
 have HK1:=Hd (KpC.of_below (g:=E.g) (ov:=ov) (nv:=nv) HBX.out)
 have HTG:Hid (W.heap.size≠E.g):=Hd (by omega)
 have HTO:Hid (ov.ownBlock≠some W.heap.size):=Hd (fun e=>by have:=(HI.out.o.lt _ e).2;omega)
 have HTN:Hid (nv.ownBlock≠some W.heap.size):=Hd (fun e=>by have:=(HI.out.f.lt _ e).2;omega)
 clear HBX
 generalize (W.alloc (.cells #[.int .u8 (pk:Int),.int .i64 pn,.string pw] 38)).drew=W1 at *
 have hol:out.length≤1000000000:=by have:=hLN.out;omega
 clear HS0
 go_upto_region 1 with (fail)
 refine zBe (fun a a' w'=>∃ (va:Option Addr) (vn vc gb:Nat),a'=((((((((((a.put (some 13) (.pointer (some ⟨E.g,0,none⟩))).put (some 14) (.pointer (some ⟨E.g,0,none⟩))).put (some 15) (.pointer (some ⟨E.g,0,none⟩))).put (some 16) (.pointer (some ⟨E.g,2,none⟩))).put (some 17) ov).put (some 18) (.agg #[.int .u8 (pk:Int),.int .i64 pn,.string pw])).put (some 19) (.slice (some ⟨gb,0,none⟩) 1 1)).put (some 20) (.slice va vn vc)).put (some 21) (.pointer (some ⟨E.g,0,none⟩))).put (some 22) (.pointer (some ⟨E.g,2,none⟩)))∧CpIn w0 E (out++[(pk,pn,pw)]) ns i (.slice va vn vc) nv w'∧PK w' W.heap.size (pk,pn,pw)∧KpC E.g ov nv (.slice va vn vc) nv W w'∧(Value.slice va vn vc).ownBlock≠some W.heap.size∧nv.ownBlock≠some W.heap.size) ?_ ?_
 ·refine wp_region_held_drew (S:=fun W'=>W'.cell? ⟨W.heap.size,0,none⟩=some (.int .u8 (pk:Int))∧W'.cell? ⟨W.heap.size,1,none⟩=some (.int .i64 pn)∧W'.cell? ⟨W.heap.size,2,none⟩=some (.string pw)) (by kernel_rfl) (pk3 (HP1.out.keep (Below.refl _ _).drew)) (fun hHeld=>?_)
  have HD:=Hd (HC1.out.below (Below.refl _ _).drew);have HPD:=Hd (HP1.out.keep (Below.refl _ _).drew);have HKD:=Hd (HK1.out.trans (KpC.of_below (Below.refl _ _).drew));clear HC1 HP1 HK1;generalize W1.drew=wd at *
  refine tkH 0 13 ?vr1_1_0 rfl ?hyr1_1_0 hHeld ?restr1_1_0
  case hyr1_1_0=>intro w q;(try dsimp only at q);go_simp;(try with_reducible rfl)
  (try simp only [aP])
  refine tkH 1 14 ?vr1_2_1 rfl ?hyr1_2_1 hHeld ?restr1_2_1
  case hyr1_2_1=>intro w q;(try dsimp only at q);go_simp;(try with_reducible rfl)
  (try simp only [aP])
  refine tkH 2 15 ?vr1_3_2 rfl ?hyr1_3_2 hHeld ?restr1_3_2
  case hyr1_3_2=>intro w q;(try dsimp only at q);go_simp;(try with_reducible rfl)
  (try simp only [aP])
  refine tkH 3 16 ?vr1_4_3 rfl ?hyr1_4_3 hHeld ?restr1_4_3
  case hyr1_4_3=>intro w q;(try dsimp only at q);go_simp;(try with_reducible rfl)
  (try simp only [aP])
  refine tkH 5 18 ?vr1_5_5 rfl ?hyr1_5_5 hHeld ?restr1_5_5
  case hyr1_5_5=>intro w q;(try dsimp only at q);go_simp;(try with_reducible rfl)
  (try simp only [aP])
  have HSA:=Hd (pk3 (HPD.out.keep ((Below.refl wd.heap.size wd).alloc (Nat.le_refl _) (.cells #[.int .u8 (pk:Int),.int .i64 pn,.string pw] 38))))
  have HDA:=Hd (HD.out.below ((Below.refl wd.heap.size wd).alloc (Nat.le_refl _) (.cells #[.int .u8 (pk:Int),.int .i64 pn,.string pw] 38)))
  refine wpAnyH_ready (rs:=[4,6]) (by kernel_rfl) (by simp) ?_
  refine AllReadyH.cons (o:=⟨some 17,_,_,_,_,_⟩) rfl (fun K hK=>?q1A) (AllReadyH.cons (o:=⟨some 19,_,_,_,_,_⟩) rfl (fun K hK=>?q1B) AllReadyH.nil)
  case q1A =>
   obtain ⟨c0,c1,c2,c3,c4,cz⟩:=HD.out.s.cells
   go_simp
   clear c0 c1 c2 c3 c4 cz
   refine hK.out _ _ hHeld (fun hH2=>?_)
   clear hK K hHeld
   (try simp only [aP])
   refine wpAnyH_ready (rs:=[6]) (by kernel_rfl) (by simp) ?_
   refine AllReadyH.cons (o:=⟨some 19,_,_,_,_,_⟩) rfl (fun K hK=>?_) AllReadyH.nil
   go_simp
   refine hK.out _ (wd.alloc (.cells #[.int .u8 (pk:Int),.int .i64 pn,.string pw] 38)) HSA.out (fun hH3=>?_)
   clear hK K hH2
   (try simp only [aP])
   refine wpAnyH_ready (rs:=[7]) (by kernel_rfl) (by simp) ?_
   refine AllReadyH.cons (o:=⟨some 20,_,_,_,_,_⟩) rfl (fun K hK=>?_) AllReadyH.nil
   rw [if_pos (by kernel_rfl)]
   obtain ⟨vx,w6,hr,hsx,hcx,hkx⟩:=HD.out.part (pk,pn,pw) (by omega)
   obtain ⟨vxa,vxn,vxc,rfl⟩:=zL hcx.o
   have HSX:=Hd hsx
   have HCX:=Hd hcx
   have HKX:=Hd hkx
   have HS6:=Hd (pk3 (zBf HPD.out hkx HTG.out HTO.out HTN.out).1)
   have HS7:=Hd (pk3 (zBf HPD.out hkx HTG.out HTO.out HTN.out).2)
   clear hsx hcx hkx
   refine yP _ _ _ _ hr rfl rfl rfl rfl ?_
   refine hK.out _ _ HS6.out (fun hH5=>?_)
   clear hK K hr hH3
   (try simp only [aP])
   refine tkH 8 21 ?vr1_6_8 rfl ?hyr1_6_8 hH5 ?restr1_6_8
   case hyr1_6_8=>intro w q;(try dsimp only at q);go_simp;(try with_reducible rfl)
   (try simp only [aP])
   refine tkH 9 22 ?vr1_7_9 rfl ?hyr1_7_9 hH5 ?restr1_7_9
   case hyr1_7_9=>intro w q;(try dsimp only at q);go_simp;(try with_reducible rfl)
   (try simp only [aP])
   obtain ⟨c0,c1,c2,c3,c4,cz⟩:=HSX.out.cells
   refine wpAnyH_ready (rs:=[10]) (by kernel_rfl) (by simp) ?_
   refine AllReadyH.cons (o:=⟨none,_,_,_,_,_⟩) rfl (fun K hK=>?_) AllReadyH.nil
   go_simp
   refine hK.out _ _ HS7.out (fun hH6=>?_)
   clear hK K hH5 c0 c1 c2 c3 c4 cz
   (try simp only [aP])
   refine wpAnyH_done (by kernel_rfl) ?_ _
   refine ⟨vxa,vxn,vxc,wd.heap.size,?_,HCX.out,(zBf HPD.out HKX.out HTG.out HTO.out HTN.out).2,HKD.out.trans HKX.out,zPv HPD.out HKX.out HTO.out,HTN.out⟩
   kernel_rfl
  case q1B =>
   go_simp
   refine hK.out _ (wd.alloc (.cells #[.int .u8 (pk:Int),.int .i64 pn,.string pw] 38)) HSA.out (fun hH2=>?_)
   clear hK K hHeld
   (try simp only [aP])
   refine wpAnyH_ready (rs:=[4]) (by kernel_rfl) (by simp) ?_
   refine AllReadyH.cons (o:=⟨some 17,_,_,_,_,_⟩) rfl (fun K hK=>?_) AllReadyH.nil
   obtain ⟨c0,c1,c2,c3,c4,cz⟩:=HDA.out.s.cells
   go_simp
   clear c0 c1 c2 c3 c4 cz
   refine hK.out _ _ hH2 (fun hH3=>?_)
   clear hK K hH2
   (try simp only [aP])
   refine wpAnyH_ready (rs:=[7]) (by kernel_rfl) (by simp) ?_
   refine AllReadyH.cons (o:=⟨some 20,_,_,_,_,_⟩) rfl (fun K hK=>?_) AllReadyH.nil
   rw [if_pos (by kernel_rfl)]
   obtain ⟨vx,w6,hr,hsx,hcx,hkx⟩:=HD.out.part (pk,pn,pw) (by omega)
   obtain ⟨vxa,vxn,vxc,rfl⟩:=zL hcx.o
   have HSX:=Hd hsx
   have HCX:=Hd hcx
   have HKX:=Hd hkx
   have HS6:=Hd (pk3 (zBf HPD.out hkx HTG.out HTO.out HTN.out).1)
   have HS7:=Hd (pk3 (zBf HPD.out hkx HTG.out HTO.out HTN.out).2)
   clear hsx hcx hkx
   refine yP _ _ _ _ hr rfl rfl rfl rfl ?_
   refine hK.out _ _ HS6.out (fun hH5=>?_)
   clear hK K hr hH3
   (try simp only [aP])
   refine tkH 8 21 ?vr1_8_8 rfl ?hyr1_8_8 hH5 ?restr1_8_8
   case hyr1_8_8=>intro w q;(try dsimp only at q);go_simp;(try with_reducible rfl)
   (try simp only [aP])
   refine tkH 9 22 ?vr1_9_9 rfl ?hyr1_9_9 hH5 ?restr1_9_9
   case hyr1_9_9=>intro w q;(try dsimp only at q);go_simp;(try with_reducible rfl)
   (try simp only [aP])
   obtain ⟨c0,c1,c2,c3,c4,cz⟩:=HSX.out.cells
   refine wpAnyH_ready (rs:=[10]) (by kernel_rfl) (by simp) ?_
   refine AllReadyH.cons (o:=⟨none,_,_,_,_,_⟩) rfl (fun K hK=>?_) AllReadyH.nil
   go_simp
   refine hK.out _ _ HS7.out (fun hH6=>?_)
   clear hK K hH5 c0 c1 c2 c3 c4 cz
   (try simp only [aP])
   refine wpAnyH_done (by kernel_rfl) ?_ _
   refine ⟨vxa,vxn,vxc,wd.heap.size,?_,HCX.out,(zBf HPD.out HKX.out HTG.out HTO.out HTN.out).2,HKD.out.trans HKX.out,zPv HPD.out HKX.out HTO.out,HTN.out⟩
   kernel_rfl
 rintro _ w2 ⟨v2a,v2n,v2c,gb,rfl,hc2,hp2,hk2,ho2,hn2⟩
 have HC2:=Hd hc2;have HP2:=Hd hp2;have HK2:=Hd hk2;have HTO2:=Hd ho2;have HTN2:=Hd hn2
 clear hc2 hp2 hk2 ho2 hn2 HC1 HP1 HK1
 (try simp only [aP])
 go_upto_region 2 with (fail)
 refine zBe (fun a a' w'=>∃ (va:Option Addr) (vn vc gb:Nat),a'=(((((((((((((((((((a.put (some 23) (.pointer (some ⟨E.g,0,none⟩))).put (some 24) (.pointer (some ⟨E.g,0,none⟩))).put (some 25) (.pointer (some ⟨E.g,0,none⟩))).put (some 26) (.pointer (some ⟨E.g,3,none⟩))).put (some 27) nv).put (some 28) (.pointer (some ⟨E.g,0,none⟩))).put (some 29) (.pointer (some ⟨E.g,0,none⟩))).put (some 30) (.pointer (some ⟨E.g,1,none⟩))).put (some 31) (.slice (some ⟨fb,fo,none⟩) E.fr.length fc)).put (some 32) (.pointer (some ⟨E.g,0,none⟩))).put (some 33) (.pointer (some ⟨E.g,0,none⟩))).put (some 34) (.pointer (some ⟨E.g,4,none⟩))).put (some 35) (.int .i64 (i:Int))).put (some 36) (.pointer (some ⟨fb,fo+i,none⟩))).put (some 37) (.int .i64 fz)).put (some 38) (.slice (some ⟨gb,0,none⟩) 1 1)).put (some 39) (.slice va vn vc)).put (some 40) (.pointer (some ⟨E.g,0,none⟩))).put (some 41) (.pointer (some ⟨E.g,3,none⟩)))∧CpIn w0 E (out++[(pk,pn,pw)]) (ns++[fz]) i (.slice v2a v2n v2c) (.slice va vn vc) w'∧PK w' W.heap.size (pk,pn,pw)∧KpC E.g ov nv (.slice v2a v2n v2c) (.slice va vn vc) W w') ?_ ?_
 ·refine wp_region_held_drew (S:=fun W'=>W'.cell? ⟨E.g,1,none⟩=some (.slice (some ⟨fb,fo,none⟩) E.fr.length fc)∧W'.cell? ⟨E.g,4,none⟩=some (.int .i64 (i:Int))∧W'.cell? ⟨fb,fo+i,none⟩=some (.int .i64 fz)) (by kernel_rfl) (HSF.out _ _ _ _ _ (HC2.out.below (Below.refl _ _).drew)) (fun hHeld=>?_)
  have HD:=Hd (HC2.out.below (Below.refl _ _).drew);have HPD:=Hd (HP2.out.keep (Below.refl _ _).drew);have HKD:=Hd (HK2.out.trans (KpC.of_below (Below.refl _ _).drew));clear HC2 HP2 HK2;generalize w2.drew=wd at *
  refine tkH 0 23 ?vr2_1_0 rfl ?hyr2_1_0 hHeld ?restr2_1_0
  case hyr2_1_0=>intro w q;(try dsimp only at q);go_simp;(try with_reducible rfl)
  (try simp only [aP])
  refine tkH 1 24 ?vr2_2_1 rfl ?hyr2_2_1 hHeld ?restr2_2_1
  case hyr2_2_1=>intro w q;(try dsimp only at q);go_simp;(try with_reducible rfl)
  (try simp only [aP])
  refine tkH 2 25 ?vr2_3_2 rfl ?hyr2_3_2 hHeld ?restr2_3_2
  case hyr2_3_2=>intro w q;(try dsimp only at q);go_simp;(try with_reducible rfl)
  (try simp only [aP])
  refine tkH 3 26 ?vr2_4_3 rfl ?hyr2_4_3 hHeld ?restr2_4_3
  case hyr2_4_3=>intro w q;(try dsimp only at q);go_simp;(try with_reducible rfl)
  (try simp only [aP])
  refine tkH 5 28 ?vr2_5_5 rfl ?hyr2_5_5 hHeld ?restr2_5_5
  case hyr2_5_5=>intro w q;(try dsimp only at q);go_simp;(try with_reducible rfl)
  (try simp only [aP])
  refine tkH 6 29 ?vr2_6_6 rfl ?hyr2_6_6 hHeld ?restr2_6_6
  case hyr2_6_6=>intro w q;(try dsimp only at q);go_simp;(try with_reducible rfl)
  (try simp only [aP])
  refine tkH 7 30 ?vr2_7_7 rfl ?hyr2_7_7 hHeld ?restr2_7_7
  case hyr2_7_7=>intro w q;(try dsimp only at q);go_simp;(try with_reducible rfl)
  (try simp only [aP])
  refine tkH 8 31 ?vr2_8_8 rfl ?hyr2_8_8 hHeld ?restr2_8_8
  case hyr2_8_8=>intro w q;(try dsimp only at q);go_simp;(try with_reducible rfl)
  (try simp only [aP])
  refine tkH 9 32 ?vr2_9_9 rfl ?hyr2_9_9 hHeld ?restr2_9_9
  case hyr2_9_9=>intro w q;(try dsimp only at q);go_simp;(try with_reducible rfl)
  (try simp only [aP])
  refine tkH 10 33 ?vr2_10_10 rfl ?hyr2_10_10 hHeld ?restr2_10_10
  case hyr2_10_10=>intro w q;(try dsimp only at q);go_simp;(try with_reducible rfl)
  (try simp only [aP])
  refine tkH 11 34 ?vr2_11_11 rfl ?hyr2_11_11 hHeld ?restr2_11_11
  case hyr2_11_11=>intro w q;(try dsimp only at q);go_simp;(try with_reducible rfl)
  (try simp only [aP])
  refine tkH 12 35 ?vr2_12_12 rfl ?hyr2_12_12 hHeld ?restr2_12_12
  case hyr2_12_12=>intro w q;(try dsimp only at q);go_simp;(try with_reducible rfl)
  (try simp only [aP])
  refine tkH 13 36 ?vr2_13_13 rfl ?hyr2_13_13 hHeld ?restr2_13_13
  case hyr2_13_13=>intro w q;(try dsimp only at q);go_simp;(try with_reducible rfl)
  (try simp only [aP])
  refine tkH 14 37 ?vr2_14_14 rfl ?hyr2_14_14 hHeld ?restr2_14_14
  case hyr2_14_14=>intro w q;(try dsimp only at q);go_simp;(try with_reducible rfl)
  (try simp only [aP])
  have HSA:=Hd (HSF.out _ _ _ _ _ (HD.out.below ((Below.refl wd.heap.size wd).alloc (Nat.le_refl _) (.cells #[.int .i64 fz] 3))))
  have HDA:=Hd (HD.out.below ((Below.refl wd.heap.size wd).alloc (Nat.le_refl _) (.cells #[.int .i64 fz] 3)))
  refine wpAnyH_ready (rs:=[4,15]) (by kernel_rfl) (by simp) ?_
  refine AllReadyH.cons (o:=⟨some 27,_,_,_,_,_⟩) rfl (fun K hK=>?q2A) (AllReadyH.cons (o:=⟨some 38,_,_,_,_,_⟩) rfl (fun K hK=>?q2B) AllReadyH.nil)
  case q2A =>
   obtain ⟨c0,c1,c2,c3,c4,cz⟩:=HD.out.s.cells
   go_simp
   clear c0 c1 c2 c3 c4 cz
   refine hK.out _ _ hHeld (fun hH2=>?_)
   clear hK K hHeld
   (try simp only [aP])
   refine wpAnyH_ready (rs:=[15]) (by kernel_rfl) (by simp) ?_
   refine AllReadyH.cons (o:=⟨some 38,_,_,_,_,_⟩) rfl (fun K hK=>?_) AllReadyH.nil
   go_simp
   refine hK.out _ (wd.alloc (.cells #[.int .i64 fz] 3)) HSA.out (fun hH3=>?_)
   clear hK K hH2
   (try simp only [aP])
   refine wpAnyH_ready (rs:=[16]) (by kernel_rfl) (by simp) ?_
   refine AllReadyH.cons (o:=⟨some 39,_,_,_,_,_⟩) rfl (fun K hK=>?_) AllReadyH.nil
   rw [if_pos (by kernel_rfl)]
   obtain ⟨vx,w6,hr,hsx,hcx,hkx⟩:=HD.out.num fz (by have:=hNS.out;omega)
   obtain ⟨vxa,vxn,vxc,rfl⟩:=zL hcx.f
   have HSX:=Hd hsx
   have HCX:=Hd hcx
   have HKX:=Hd hkx
   have HS6:=Hd (HSG.out _ _ _ _ hsx hcx.b)
   have HS7:=Hd (HSF.out _ _ _ _ _ hcx)
   clear hsx hcx hkx
   refine yP _ _ _ _ hr rfl rfl rfl rfl ?_
   refine hK.out _ _ HS6.out (fun hH5=>?_)
   clear hK K hr hH3
   (try simp only [aP])
   refine tkH 17 40 ?vr2_15_17 rfl ?hyr2_15_17 hH5 ?restr2_15_17
   case hyr2_15_17=>intro w q;(try dsimp only at q);go_simp;(try with_reducible rfl)
   (try simp only [aP])
   refine tkH 18 41 ?vr2_16_18 rfl ?hyr2_16_18 hH5 ?restr2_16_18
   case hyr2_16_18=>intro w q;(try dsimp only at q);go_simp;(try with_reducible rfl)
   (try simp only [aP])
   obtain ⟨c0,c1,c2,c3,c4,cz⟩:=HSX.out.cells
   refine wpAnyH_ready (rs:=[19]) (by kernel_rfl) (by simp) ?_
   refine AllReadyH.cons (o:=⟨none,_,_,_,_,_⟩) rfl (fun K hK=>?_) AllReadyH.nil
   go_simp
   refine hK.out _ _ HS7.out (fun hH6=>?_)
   clear hK K hH5 c0 c1 c2 c3 c4 cz
   (try simp only [aP])
   refine wpAnyH_done (by kernel_rfl) ?_ _
   refine ⟨vxa,vxn,vxc,wd.heap.size,?_,HCX.out,(zBf HPD.out HKX.out HTG.out HTO2.out HTN2.out).2,HKD.out.trans HKX.out⟩
   kernel_rfl
  case q2B =>
   go_simp
   refine hK.out _ (wd.alloc (.cells #[.int .i64 fz] 3)) HSA.out (fun hH2=>?_)
   clear hK K hHeld
   (try simp only [aP])
   refine wpAnyH_ready (rs:=[4]) (by kernel_rfl) (by simp) ?_
   refine AllReadyH.cons (o:=⟨some 27,_,_,_,_,_⟩) rfl (fun K hK=>?_) AllReadyH.nil
   obtain ⟨c0,c1,c2,c3,c4,cz⟩:=HDA.out.s.cells
   go_simp
   clear c0 c1 c2 c3 c4 cz
   refine hK.out _ _ hH2 (fun hH3=>?_)
   clear hK K hH2
   (try simp only [aP])
   refine wpAnyH_ready (rs:=[16]) (by kernel_rfl) (by simp) ?_
   refine AllReadyH.cons (o:=⟨some 39,_,_,_,_,_⟩) rfl (fun K hK=>?_) AllReadyH.nil
   rw [if_pos (by kernel_rfl)]
   obtain ⟨vx,w6,hr,hsx,hcx,hkx⟩:=HD.out.num fz (by have:=hNS.out;omega)
   obtain ⟨vxa,vxn,vxc,rfl⟩:=zL hcx.f
   have HSX:=Hd hsx
   have HCX:=Hd hcx
   have HKX:=Hd hkx
   have HS6:=Hd (HSG.out _ _ _ _ hsx hcx.b)
   have HS7:=Hd (HSF.out _ _ _ _ _ hcx)
   clear hsx hcx hkx
   refine yP _ _ _ _ hr rfl rfl rfl rfl ?_
   refine hK.out _ _ HS6.out (fun hH5=>?_)
   clear hK K hr hH3
   (try simp only [aP])
   refine tkH 17 40 ?vr2_17_17 rfl ?hyr2_17_17 hH5 ?restr2_17_17
   case hyr2_17_17=>intro w q;(try dsimp only at q);go_simp;(try with_reducible rfl)
   (try simp only [aP])
   refine tkH 18 41 ?vr2_18_18 rfl ?hyr2_18_18 hH5 ?restr2_18_18
   case hyr2_18_18=>intro w q;(try dsimp only at q);go_simp;(try with_reducible rfl)
   (try simp only [aP])
   obtain ⟨c0,c1,c2,c3,c4,cz⟩:=HSX.out.cells
   refine wpAnyH_ready (rs:=[19]) (by kernel_rfl) (by simp) ?_
   refine AllReadyH.cons (o:=⟨none,_,_,_,_,_⟩) rfl (fun K hK=>?_) AllReadyH.nil
   go_simp
   refine hK.out _ _ HS7.out (fun hH6=>?_)
   clear hK K hH5 c0 c1 c2 c3 c4 cz
   (try simp only [aP])
   refine wpAnyH_done (by kernel_rfl) ?_ _
   refine ⟨vxa,vxn,vxc,wd.heap.size,?_,HCX.out,(zBf HPD.out HKX.out HTG.out HTO2.out HTN2.out).2,HKD.out.trans HKX.out⟩
   kernel_rfl
 rintro _ w3 ⟨v3a,v3n,v3c,gc,rfl,hc3,hp3,hk3⟩
 have HC3:=Hd hc3;have HP3:=Hd hp3;have HK3:=Hd hk3
 clear hc3 hp3 hk3 HC2 HP2 HK2 HTO2 HTN2 HTO HTN HI
 (try simp only [aP])
 have HC4:Hid (CpIn w0 E (out++[(pk,pn,pw)]) (ns++[fz]) (i+1) (.slice v2a v2n v2c) (.slice v3a v3n v3c) (w3.setCell ⟨E.g,4,none⟩ (.int .i64 ((i:Int)+1)))):=Hd (by
  have h:=HC3.out.step (i+1)
  rwa [show (((i+1:Nat)):Int)=(i:Int)+1 from by push_cast;rfl] at h)
 have HK4:=Hd (HK3.out.setG 4 (.int .i64 ((i:Int)+1)))
 have HP4:Hid (PK (w3.setCell ⟨E.g,4,none⟩ (.int .i64 ((i:Int)+1))) W.heap.size (pk,pn,pw)):=Hd (by
  have h:=HP3.out
  unfold PK at *
  rw [heap_setCell_other _ _ _ _ HTG.out];exact h)
 obtain ⟨c0,c1,c2,c3,c4,cz⟩:=HC3.out.s.cells
 go_upto_region 4 with (fail)
 clear c0 c1 c2 c3 c4 cz HC3 HP3 HK3
 generalize w3.setCell ⟨E.g,4,none⟩ (.int .i64 ((i:Int)+1))=w4 at *
 have p0:=HP4.out.c0;have p1:=HP4.out.c1;have p2:=HP4.out.c2
 simp only [] at p0 p1 p2
 go_wp2_with fail
 refine (HEI.out w4 _ _ _ _ HC4.out hil (by have:=hFU.out;omega) (by have:=hLN.out;simp only [List.length_append,List.length_singleton];omega) (by have:=hNS.out;simp only [List.length_append,List.length_singleton];omega)).mono ?_
 intro e w5 hp
 unfold cpPost at hp
 obtain ⟨ov5,nv5,v5,rfl,hc5,hk5⟩:=hp
 have HZ:Hid (∀ v,cpPost w0 E out ns ov nv (pnAt E.l E.fr i::gKids E.l E.fr n (pk,pn,pw) 0 (i+1) (zC E.l i)) (zC E.l i) W (.returned v) w5):=Hd fun v=>by
  unfold cpPost
  refine ⟨ov5,nv5,v,rfl,?_,HK4.out.trans hk5⟩
  rw [hpn'.out]
  simpa [List.append_assoc] using hc5
 clear hc5 hk5 p0 p1 p2
 go_wp2_with fail
 go_end0
 exact HZ.out _
end Go.Proofs.YtfalelkfhandfaaGreatDoor
