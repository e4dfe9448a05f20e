/- Layer 17, the reference: Inst, walked. -/
import Derived.Test.YtmklemelgdilkaaGreatDoorPackMk
import Derived.Test.YtmklemelgdilkaaGreatDoorFillZMk
import Derived.Test.YtmklemelgdilkaaGreatDoorInstWMk
import Derived.Test.YtmklemelgdilkaaGreatDoorTermQMk
import Derived.Test.YtmklemelgdilkaaGreatDoorFillPMk
import Derived.Test.YtmklemelgdilkaaGreatDoorSwapPMk
import Derived.Test.YtmklemelgdilkaaGreatDoorStillMk
import Derived.Deep.RegionHeld3
namespace Go.Proofs.YtmklemelgdilkaaGreatDoor
set_option linter.all false
attribute [local irreducible] Calls
attribute [local irreducible] wpStill
open Go.RowKit

structure InE (t l:List Prt) (hs:List Hl) (bs:List Bnd) (vt vh vb vl:Value) (w:World):Prop where
 T:PartRow w vt t
 H:HoleRow w vh hs
 B:BindRow w vb bs
 L:PartRow w vl l
theorem InE.below {t l:List Prt} {hs:List Hl} {bs:List Bnd} {vt vh vb vl:Value} {w w':World} (h:InE t l hs bs vt vh vb vl w) (hb:Below w.heap.size w w'):InE t l hs bs vt vh vb vl w':=⟨h.T.below hb,h.H.below hb,h.B.below hb,h.L.below hb⟩
structure InOK (t l:List Prt) (hs:List Hl) (bs:List Bnd):Prop where
 H:HolesOK t hs
 n:bs.length=hs.length
 b:BindsIn bs l
 r:∀ h,∃ ts,rowsB (piece l (bOf bs h).1 (bOf bs h).2)=some ts
 tl:t.length≤1048576
 ll:l.length≤1048576
 hl:hs.length≤1048576
@[irreducible] def instPost (M:List PN) (w0:World) (e:Ending) (w':World):Prop :=
 ∃ v1 v2,e=.returned (.tuple #[v1,v2])∧Below w0.heap.size w0 w'∧w'.ownsRow w0.heap.size 45 3 v1 M.length (partsV (M.map (·.1)))∧w'.ownsRow w0.heap.size 3 1 v2 M.length (intsV (M.map (·.2)))
def InstC (t l:List Prt) (hs:List Hl) (bs:List Bnd) (vt vh vb vl:Value) (n:Nat):Prop:=∀ (w:World) (p:Nat),InE t l hs bs vt vh vb vl w→p<t.length→2*(endB t p-p)≤n→(mPart t l hs (bOf bs) n p).length≤1000000000 →
 Calls Tryz.prog 45 #[vt,vh,vb,vl,.int .i64 (p:Int)] w (instPost (mPart t l hs (bOf bs) n p) w)
theorem copy_parts (w:World) (l:List Prt) (hl:l.length≤1048576) (src:Value) (hr:PartRow w src l) :
  ∃ v' w',(Builtin.append_ #[23,23] 23 #[.slice (some ⟨w.heap.size,0,none⟩) 0 0,src]).run Tryz.prog (w.alloc (.cells #[] 45))=.ok v' w'∧w'.ownsRow w.heap.size 45 3 v' l.length (partsV l)∧Below w.heap.size w w':=by
 obtain ⟨v',w',h1,h2,h3,_⟩:=append_eq (P:=Tryz.prog) (w.alloc (.cells #[] 45)) 23 23 45 Tryz.underlying23 w.heap.size Tinfo_part rfl (by decide) _ 0 [] (owns_empty w w.heap.size 45 3 (Nat.le_refl _)) src l.length (partsV l) (Row.below hr ((Below.refl _ _).alloc (Nat.le_refl _) _)) (partsV_one l) (by omega) (by omega) (by simp)
 refine ⟨v',w',h1,by simpa using h2,?_⟩
 exact ((Below.refl _ _).alloc (Nat.le_refl _) _).grown h3 (by simp) (fun q e=>by simp [Value.ownBlock] at e;omega)
def rngV (a n:Nat):List Value:=(List.range' a n).map fun (k:Nat)=>Value.int .i64 (k:Int)
theorem rngV_snoc (a n:Nat):rngV a (n+1)=rngV a n++[.int .i64 ((a+n:Nat):Int)]:=by
 unfold rngV
 rw [List.range'_1_concat,List.map_append];rfl
theorem src_rng (l:List Prt) (x y:Nat):intsV ((srcL l x y).map (·.2))=rngV x (y-x):=by
 unfold intsV srcL rngV
 rw [List.map_map,List.map_map];rfl
def ihRel (fr tx:Nat) (w1:World) (fv iv:Value) (wr:World):Prop :=
 ∃ i:Nat,iv=.int .i64 (i:Int)∧fr≤i∧i≤tx∧wr.ownsRow w1.heap.size 3 1 fv (i-fr) (rngV fr (i-fr))∧Below w1.heap.size w1 wr
set_option maxRecDepth 100000 in
set_option maxHeartbeats 16000000 in
theorem inst_hole {t l:List Prt} {hs:List Hl} {bs:List Bnd} (ok:InOK t l hs bs) (vt vh vb vl:Value) (n:Nat) (w:World) (p:Nat) (hi:InE t l hs bs vt vh vb vl w) (hp:p<t.length) (h:Nat) (ho:holeOf t hs p=some h) :
  Calls Tryz.prog 45 #[vt,vh,vb,vl,.int .i64 (p:Int)] w (instPost (mPart t l hs (bOf bs) (n+1) p) w):=by
 rw [mp_hole ho]
 have hh:h<bs.length:=by rw [ok.n];exact (holeOf_inv ho).1
 have hbi:=ok.b _ (List.getElem_mem hh)
 have hbl:bs.length≤1048576:=by rw [ok.n];exact ok.hl
 have hll:=ok.ll
 rw [bOf_at hh]
 simp only []
 have HQ:RowKit.Hid (∀ v1 v2 w',Below w.heap.size w w'→w'.ownsRow w.heap.size 45 3 v1 ((bs[h]).2.2.toNat-(bs[h]).2.1.toNat) (partsV (piece l (bs[h]).2.1.toNat (bs[h]).2.2.toNat))→w'.ownsRow w.heap.size 3 1 v2 ((bs[h]).2.2.toNat-(bs[h]).2.1.toNat) (rngV (bs[h]).2.1.toNat ((bs[h]).2.2.toNat-(bs[h]).2.1.toNat))→instPost (srcL l (bs[h]).2.1.toNat (bs[h]).2.2.toNat) w (.returned (.tuple #[v1,v2])) w'):=Hd fun v1 v2 w' h1 h2 h3=>by
  unfold instPost
  rw [srcL_len,srcL_fst l (by omega) (by omega),src_rng]
  exact ⟨v1,v2,rfl,h1,h2,h3⟩
 generalize instPost (srcL l (bs[h]).2.1.toNat (bs[h]).2.2.toNat) w=Q at *
 have C1:=Hd (ref_Hole t hs ok.tl ok.hl p hp vt vh w hi.T hi.H)
 rw [ho] at C1
 simp only [holeI] at C1
 obtain ⟨ba,bc,rfl,hbc⟩:=Row.shape hi.B
 obtain ⟨bb,bo,rfl,_,_,hbb,hcell⟩:=hi.B.at (Below.refl _ _) (show 0<bs.length by omega)
 have HC:RowKit.Hid (∀ W,Below w.heap.size w W→W.cell? ⟨bb,bo+h*3+1,none⟩=some (.int .i64 (bs[h]).2.1)∧W.cell? ⟨bb,bo+h*3+2,none⟩=some (.int .i64 (bs[h]).2.2)):=Hd fun W hb=>by
  obtain ⟨b',o',e',_,_,_,hcc⟩:=hi.B.at hb (show 0<bs.length by omega)
  simp only [Option.some.injEq,Addr.mk.injEq,and_true] at e'
  obtain ⟨rfl,rfl⟩:=e'
  exact ⟨(hcc h hh).2.1,(hcc h hh).2.2⟩
 obtain ⟨fr,hfr⟩:∃ fr:Nat,(bs[h]).2.1=(fr:Int):=⟨(bs[h]).2.1.toNat,by omega⟩
 obtain ⟨tx,htx⟩:∃ tx:Nat,(bs[h]).2.2=(tx:Int):=⟨(bs[h]).2.2.toNat,by omega⟩
 rw [hfr,htx] at HQ HC hbi
 simp only [Int.toNat_natCast] at HQ
 have h12:fr≤tx:=by omega
 have h2l:tx≤l.length:=by omega
 obtain ⟨sp,sc,hsl,hpr⟩:=slice_piece w vl l hi.L fr tx h12 h2l
 have hpl:(piece l fr tx).length=tx-fr:=piece_len h12 h2l
 have HPR:=Hd hpr
 have HCP:=Hd (fun W (hb:Below w.heap.size w W)=>copy_parts W (piece l fr tx) (by omega) (.slice sp (tx-fr) sc) (hpr.below hb))
 obtain ⟨ta,tc,rfl,htc⟩:=hi.T.slice
 obtain ⟨ha,hc,rfl,hhc⟩:=Row.shape hi.H
 obtain ⟨la,lc,rfl,hlc⟩:=hi.L.slice
 rw [hpl] at HCP
 have hh0:(0:Int)≤(h:Int):=by omega
 have hhl:(h:Int)<bs.length:=by omega
 have hhb:(h:Int)<(bc:Int):=by omega
 have hft:(fr:Int)≤(tx:Int):=by omega
 have htl:(tx:Int)≤l.length:=by omega
 have hf0:(0:Int)≤(fr:Int):=by omega
 clear hi hcell hfr htx hpr hpl hbi ho
 generalize piece l fr tx=PC at *
 go_enter Tryz.func45,Tryz.ntmps45
 go_wp2_with fail
 refine C1.out.mono ?_
 rintro e w1 ⟨rfl,hb1⟩
 have HB1:=Hd hb1
 obtain ⟨c1,c2⟩:=HC.out w1 hb1
 clear hb1 C1
 go_wp2_with fail
 clear c1 c2
 go_loopw [13,14] (fun fv iv wr=>ihRel fr tx w1 fv iv wr) (fun _ iv _=>tx-(intOf iv).toNat)
 case atStart=>exact ⟨fr,rfl,Nat.le_refl _,h12,by rw [Nat.sub_self];exact World.ownsRow_nil _ _ _ _,Below.refl _ _⟩
 case round =>
  obtain ⟨i,rfl,hfi,hit,hof,hb⟩:=hrel
  obtain ⟨fa,fc,rfl,hfc⟩:=Row.shape (Row.of_owns hof)
  have HB:=Hd hb
  have HOF:=Hd hof
  have HBW:=Hd (bthen HB1.out hb)
  obtain ⟨c1,c2⟩:=HC.out wr HBW.out
  clear hb hof hfc
  by_cases hlt:i<tx
  ·have hii:(i:Int)<(tx:Int):=by omega
   have hwi:IntKind.i64.wrap ((i:Int)+1)=(i:Int)+1:=by rw [IntKind.wrap_i64];omega
   have hbs:=HB.out.size
   have HEQ:RowKit.Hid (rngV fr (i+1-fr)=rngV fr (i-fr)++[.int .i64 (i:Int)]∧i+1-fr=i-fr+1):=Hd (by
    have e:i+1-fr=i-fr+1:=by omega
    rw [e,rngV_snoc,show fr+(i-fr)=i by omega];exact ⟨rfl,rfl⟩)
   go_wp2_with (at_builtin;refine wpList_append_lit wr #[.int .i64 (i:Int)] _ rfl _ _ 27 3 rfl Tryz.underlying27 w1.heap.size Tinfo_int rfl (by decide) _ _ _ rfl HOF.out 1 1 rfl rfl (by decide) (by intro u hu;simp at hu;subst hu;rfl) (by omega) (by omega) hbs ?_)
   intro v' w' hown hgr _
   have hb':=grown_below HB.out hbs HOF.out hgr
   have HX:RowKit.Hid (ihRel fr tx w1 v' (.int .i64 ((i:Int)+1)) w'):=Hd ⟨i+1,by push_cast;rfl,by omega,hlt,by rw [HEQ.out.1,HEQ.out.2];exact hown,hb'⟩
   clear hown hgr hb' c1 c2
   go_wp2_with fail
   exact ⟨HX.out,by simp only [intOf];omega⟩
  ·obtain rfl:i=tx:=by omega
   have hii:¬ (i:Int)<(i:Int):=by omega
   have HBD:RowKit.Hid (Below w.heap.size w wr.drew):=Hd HBW.out.drew
   obtain ⟨v',w',hrun,hown,hbl⟩:=HCP.out wr.drew HBD.out
   have HRUN:=Hd (show (Builtin.append_ #[23,23] 23 #[.slice (some ⟨wr.heap.size,0,none⟩) 0 0,.slice sp (i-fr) sc]).run Tryz.prog ((wr.alloc (.cells #[] 45)).drew)=.ok v' w' from hrun)
   have HFIN:=Hd (HQ.out v' (.slice fa (i-fr) fc) w' (bthen HBD.out hbl) (owns_mono hown HBW.out.size) (owns_mono (owns_below (owns_below HOF.out (Below.refl _ _).drew) hbl) HB1.out.size))
   have HS:RowKit.Hid (∀ W,Below w.heap.size w W→W.cell? ⟨bb,bo+h*3+1,none⟩=some (.int .i64 (fr:Int))∧W.cell? ⟨bb,bo+h*3+2,none⟩=some (.int .i64 (i:Int))):=Hd HC.out
   have HBL:=Hd (bthen HBD.out hbl)
   obtain ⟨va',vn',vc',rfl⟩:=owns_slice hown
   clear hrun hown hbl
   go_upto_region 8 with (fail)
   clear c1 c2
   go_region_held3 (fun W=>W.cell? ⟨bb,bo+h*3+1,none⟩=some (.int .i64 (fr:Int))∧W.cell? ⟨bb,bo+h*3+2,none⟩=some (.int .i64 (i:Int))) (first | exact HS.out _ HBD.out | exact HS.out _ (HBD.out.alloc HBD.out.size _) | exact HS.out _ (HBW.out.alloc HBW.out.size _).drew | exact HS.out _ HBL.out) ((rw [if_pos (by kernel_rfl)];with_reducible (show Oper.wp _ _ _ ((wr.alloc (.cells #[] 45)).drew) _ _);refine oper_append_run _ _ _ _ HRUN.out rfl rfl rfl rfl ?_))
   all_goals
    go_wp2_with fail
    exact HFIN.out
theorem InW.start {w0 w1:World} (hb:Below w0.heap.size w0 w1) (kp:Nat→Nat) (ka:Option Addr) (pk:Nat) (pn:Int) (pw:ByteArray) :
  ((w1.alloc (.cells #[.int .u8 (pk:Int),.int .i64 pn,.string pw] 45)).alloc (.cells #[.int .i64 (-1)] 3)).cell? ⟨w1.heap.size,1,none⟩=some (.int .i64 pn) ∧
  ((w1.alloc (.cells #[.int .u8 (pk:Int),.int .i64 pn,.string pw] 45)).alloc (.cells #[.int .i64 (-1)] 3)).frozen? ⟨w1.heap.size,1,none⟩=false ∧
  InW w0 0 kp ka pk pw [] (.slice (some ⟨w1.heap.size,0,none⟩) 1 1) (.slice (some ⟨w1.heap.size+1,0,none⟩) 1 1) (((w1.alloc (.cells #[.int .u8 (pk:Int),.int .i64 pn,.string pw] 45)).alloc (.cells #[.int .i64 (-1)] 3)).setCell ⟨w1.heap.size,1,none⟩ (.int .i64 0)):=by
 have h1:((w1.alloc (.cells #[.int .u8 (pk:Int),.int .i64 pn,.string pw] 45)).alloc (.cells #[.int .i64 (-1)] 3)).heap[w1.heap.size]?=some (.cells #[.int .u8 (pk:Int),.int .i64 pn,.string pw] 45 (0,0)):=by
  rw [Below.heap_alloc _ _ _ (by simp)];exact heap_alloc_new _ _
 have h2:((w1.alloc (.cells #[.int .u8 (pk:Int),.int .i64 pn,.string pw] 45)).alloc (.cells #[.int .i64 (-1)] 3)).heap[w1.heap.size+1]?=some (.cells #[.int .i64 (-1)] 3 (0,0)):=by
  have:=heap_alloc_new (w1.alloc (.cells #[.int .u8 (pk:Int),.int .i64 pn,.string pw] 45)) (.cells #[.int .i64 (-1)] 3)
  rw [World.size_alloc] at this;exact this
 have h3:Below w0.heap.size w0 ((w1.alloc (.cells #[.int .u8 (pk:Int),.int .i64 pn,.string pw] 45)).alloc (.cells #[.int .i64 (-1)] 3)):=(hb.alloc hb.size _).alloc (by have:=hb.size;simp;omega) _
 generalize (w1.alloc (.cells #[.int .u8 (pk:Int),.int .i64 pn,.string pw] 45)).alloc (.cells #[.int .i64 (-1)] 3)=W2 at *
 have hs:=hb.size
 have e1:=heap_setCell_same W2 w1.heap.size 1 _ _ (.int .i64 0) h1
 have e2:(W2.setCell ⟨w1.heap.size,1,none⟩ (.int .i64 0)).heap[w1.heap.size+1]?=W2.heap[w1.heap.size+1]?:=heap_setCell_other _ _ _ _ (by simp)
 refine ⟨by simp [World.cell?,h1],by simp [World.frozen?,h1],⟨?_,?_,fun c hc=>absurd hc (Nat.not_lt_zero _),h3.setCell (p:=⟨w1.heap.size,1,none⟩) hs _⟩⟩
 ·exact ⟨rfl,Or.inr ⟨w1.heap.size,1,_,rfl,hs,e1,Nat.le_refl _,by decide,rfl,rfl⟩⟩
 ·exact ⟨rfl,Or.inr ⟨w1.heap.size+1,1,_,rfl,by omega,e2.trans h2,Nat.le_refl _,by decide,rfl,rfl⟩⟩
theorem InW.kids {w0 W w5:World} {q kc:Nat} {kp:Nat→Nat} {ka ka':Option Addr} {hk:Nat} {hw:ByteArray} {M:List PN} {ov fv:Value} {ks:List Nat} (h:InW w0 0 kp ka' hk hw M ov fv W) (hb:Below W.heap.size W w5) (ho:w5.ownsRow W.heap.size 3 1 (.slice ka q kc) q (natV ks)) (hks:∀ c,c<q→ks[c]?=some (kp c)):InW w0 q kp ka hk hw M ov fv w5:=by
 have h5:=h.below hb
 refine ⟨h5.o,h5.f,fun c hc=>?_,h5.b⟩
 rcases ho.2 with ⟨_,h0⟩ | ⟨g,cap,cur,hv,hg,hh,hnc,_,hcs,htk⟩
 ·omega
 ·simp only [Value.slice.injEq] at hv
  obtain ⟨rfl,_,rfl⟩:=hv
  refine ⟨g,rfl,fun e=>?_,fun e=>?_,?_⟩
  ·have:=(h.o.lt g e).2;omega
  ·have:=(h.f.lt g e).2;omega
  ·rw [ho.cellAt _ (by omega)]
   unfold natV
   rw [List.getElem?_map,hks c hc];rfl
def inRel (t l:List Prt) (hs:List Hl) (bs:List Bnd) (n q:Nat) (kp:Nat→Nat) (pend:Nat) (ka:Option Addr) (hk:Nat) (hw:ByteArray) (MK:List PN) (w0:World) (ov fv nv:Value) (wr:World):Prop :=
 ∃ (c N:Nat) (M:List PN),nv=.int .i64 (c:Int)∧c≤q∧M++mKids t l hs (bOf bs) N (kp c) pend=MK∧2*(pend-kp c)+1≤N∧N≤n∧(∃ us,rowsB (M.map (·.1))=some us)∧InW w0 q kp ka hk hw M ov fv wr
set_option maxRecDepth 100000 in
set_option maxHeartbeats 32000000 in
theorem inst_none {t l:List Prt} {hs:List Hl} {bs:List Bnd} (ok:InOK t l hs bs) (vt vh vb vl:Value) (n:Nat) (ih:∀ m,m<n+1→InstC t l hs bs vt vh vb vl m) (w:World) (p:Nat) (hi:InE t l hs bs vt vh vb vl w) (hp:p<t.length) (hfuel:2*(endB t p-p)≤n+1) (hlen:(mPart t l hs (bOf bs) (n+1) p).length≤1000000000) (ho:holeOf t hs p=none) :
  Calls Tryz.prog 45 #[vt,vh,vb,vl,.int .i64 (p:Int)] w (instPost (mPart t l hs (bOf bs) (n+1) p) w):=by
 have hho:=ho
 obtain ⟨MK,hMK⟩:∃ MK,mKids t l hs (bOf bs) n (p+1) (endB t p)=MK:=⟨_,rfl⟩
 rw [mp_none ho hp,hMK] at hlen
 rw [mp_none ho hp,hMK]
 have HQ:RowKit.Hid (∀ v1 v2 w',Below w.heap.size w w'→w'.ownsRow w.heap.size 45 3 v1 (MK.length+1) (partsV (((t[p]).1,(cntP (MK.map (·.1)):Int),(t[p]).2.2)::MK.map (·.1)))→w'.ownsRow w.heap.size 3 1 v2 (MK.length+1) (intsV (-1::MK.map (·.2)))→instPost ((((t[p]).1,(cntP (MK.map (·.1)):Int),(t[p]).2.2),-1)::MK) w (.returned (.tuple #[v1,v2])) w'):=Hd fun v1 v2 w' h1 h2 h3=>by
  unfold instPost
  exact ⟨v1,v2,rfl,h1,h2,h3⟩
 generalize instPost ((((t[p]).1,(cntP (MK.map (·.1)):Int),(t[p]).2.2),-1)::MK) w=Q at *
 obtain ⟨q,kp,KS⟩:=kid_seq (well_rows ok.H.well) hp
 have htl:=ok.tl
 have hgf:=endB_gt (well_rows ok.H.well) hp
 have C1:=Hd (ref_Hole t hs ok.tl ok.hl p hp vt vh w hi.T hi.H)
 rw [hho] at C1
 simp only [holeI] at C1
 have CKI:=Hd (fun W (hb:Below w.heap.size w W)=>ref_KidsOwn t (by omega) _ (well_rows ok.H.well) vt p hp W (hi.T.below hb))
 have HTR:=Hd (fun W (L:List Prt) (v:Value) (h1:L.length≤1000000000) (ts:List Nat) (h2:rowsB L=some ts) (hr:PartRow W v L)=>show Calls Tryz.prog 25 #[v] W fun e w'=>e=.returned (.int .i64 (ts.length:Int))∧W=w' by
  have:=ref_Trees11 L h1 v W hr
  rw [show treesZ L=(ts.length:Int) by unfold treesZ;rw [h2]] at this
  exact this)
 obtain ⟨ta,tc,rfl,htc⟩:=hi.T.slice
 obtain ⟨ha,hc,rfl,hhc⟩:=Row.shape hi.H
 obtain ⟨ba,bc,rfl,hbc⟩:=Row.shape hi.B
 obtain ⟨la,lc,rfl,hlc⟩:=hi.L.slice
 obtain ⟨tb,tf,rfl,_,_,htb,hcell⟩:=hi.T.at (Below.refl _ _) (show 0<t.length by omega)
 have HC:RowKit.Hid (∀ W,Below w.heap.size w W→W.cell? ⟨tb,tf+p*3,none⟩=some (.int .u8 ((t[p]).1:Int))∧W.cell? ⟨tb,tf+p*3+1,none⟩=some (.int .i64 (t[p]).2.1)∧W.cell? ⟨tb,tf+p*3+2,none⟩=some (.string (t[p]).2.2)):=Hd fun W hb=>by
  obtain ⟨b',o',e',_,_,_,hcc⟩:=hi.T.at hb (show 0<t.length by omega)
  simp only [Option.some.injEq,Addr.mk.injEq,and_true] at e'
  obtain ⟨rfl,rfl⟩:=e'
  exact hcc p hp
 have HI:=Hd hi
 have HOK:=Hd ok
 have HIH:=Hd ih
 have HKS:=Hd KS
 have HMK:=Hd hMK
 have HFU:=Hd hfuel
 have HLN:=Hd hlen
 have hp0:(0:Int)≤(p:Int):=by omega
 have hpl:(p:Int)<t.length:=by omega
 have hpc:(p:Int)<(tc:Int):=by omega
 have hqn:=KS.n
 clear hi ok ih KS hMK hfuel hlen hcell ho
 generalize t[p]=tp at *
 obtain ⟨pk,pn,pw⟩:=tp
 simp only [] at HC HQ
 go_enter Tryz.func45,Tryz.ntmps45
 go_wp2_with fail
 refine C1.out.mono ?_
 rintro e w1 ⟨rfl,hb1⟩
 have HB1:=Hd hb1
 obtain ⟨c0,c1,c2⟩:=HC.out w1 hb1
 obtain ⟨y1,z1,hW3⟩:=InW.start hb1 kp none pk pn pw
 have HW3:=Hd hW3
 clear hb1 C1 hW3
 go_upto_region 11 with (fail)
 clear c0 c1 c2
 generalize (w1.alloc (.cells #[.int .u8 (pk:Int),.int .i64 pn,.string pw] 45)).alloc (.cells #[.int .i64 (-1)] 3)=W2 at *
 generalize w1.heap.size=g1 at *
 go_upto_region 12 with (fail)
 clear y1 z1
 generalize W2.setCell ⟨g1,1,none⟩ (.int .i64 0)=W3 at *
 have CK:=Hd (CKI.out W3 HW3.out.b)
 clear CKI
 go_wp2_with fail
 refine CK.out.mono ?_
 intro e w5 h5
 unfold kidsOwn at h5
 obtain ⟨kv,rfl,hb5,ho5⟩:=h5
 rw [HKS.out.len] at ho5
 obtain ⟨ka,kc,rfl,hkc⟩:=Row.shape (Row.of_owns ho5)
 have HW5:=Hd (HW3.out.kids hb5 ho5 HKS.out.get)
 clear hb5 ho5 CK HW3
 go_wp2_with fail
 go_loopw [15,16,18] (fun ov fv nv wr=>inRel t l hs bs n q kp (endB t p) ka pk pw MK w ov fv nv wr) (fun _ _ nv _=>q-(intOf nv).toNat)
 case atStart=>exact ⟨0,n,[],rfl,Nat.zero_le _,by rw [HKS.out.z];exact HMK.out,by rw [HKS.out.z];have:=HFU.out;omega,Nat.le_refl _,⟨[],rowsB_nil⟩,HW5.out⟩
 case round =>
  obtain ⟨c,N,M,rfl,hc,hM,hN,hNn,⟨us,hus⟩,hw⟩:=hrel
  have HW:=Hd hw
  have HM:=Hd hM
  have HUS:=Hd hus
  have HN:=Hd hN
  have HNN:=Hd hNn
  obtain ⟨oa,oc,rfl,hoc⟩:=Row.shape (Row.of_owns hw.o)
  obtain ⟨fa,fc,rfl,hfc⟩:=Row.shape (Row.of_owns hw.f)
  obtain ⟨N,rfl⟩:∃ N',N=N'+1:=⟨N-1,by omega⟩
  clear hw hM hus hN hNn
  by_cases hlt:c<q
  ·obtain ⟨gk,rfl,_,_,k0⟩:=HW.out.k c hlt
   have hx:=HKS.out.lt c hlt
   have hup:=HKS.out.up c hlt
   have hle:=HKS.out.le (c+1) hlt
   have hnx:=HKS.out.nx c hlt
   have hN:=HN.out
   have hMK:=HM.out
   rw [mk_next (show kp c≠endB t p by omega),hnx] at hMK
   have hml:=congrArg List.length hMK
   have hln:=HLN.out
   rw [List.length_append,List.length_append] at hml
   rw [List.length_cons] at hln
   have hPL:(mPart t l hs (bOf bs) N (kp c)).length≤1000000000:=by omega
   have hPM:M.length+(mPart t l hs (bOf bs) N (kp c)).length≤1000000000:=by omega
   obtain ⟨ts,hts⟩:=mPart_rows (t:=t) (hs:=hs) (bOf_in HOK.out.b) HOK.out.r N (kp c)
   have CI:=Hd (HIH.out N (by have:=HNN.out;omega) wr (kp c) (HI.out.below HW.out.b) hx (by rw [hnx];omega) hPL)
   have HF2:RowKit.Hid (2*(endB t p-kp (c+1))+1≤N):=Hd (by omega)
   have HMK2:=Hd hMK
   have hc0:(0:Int)≤(c:Int):=by omega
   have hcq:(c:Int)<(q:Int):=by omega
   have hck:(c:Int)<(kc:Int):=by omega
   have hwc:IntKind.i64.wrap ((c:Int)+1)=(c:Int)+1:=by rw [IntKind.wrap_i64];omega
   have HMS:RowKit.Hid (q-(c+1)<q-c):=Hd (by omega)
   clear hx hup hle hnx hN hMK hml hln HM HN
   generalize mPart t l hs (bOf bs) N (kp c)=P at *
   go_wp2_with fail
   refine CI.out.mono ?_
   intro e w6 h6
   unfold instPost at h6
   obtain ⟨va,vb,rfl,hb6,ha6,hn6⟩:=h6
   obtain ⟨aa,ac,rfl,hac⟩:=Row.shape (Row.of_owns ha6)
   obtain ⟨na,nc,rfl,hnc⟩:=Row.shape (Row.of_owns hn6)
   have hd6:=(Below.refl w6.heap.size w6).drew
   have HB6:=Hd hb6.drew
   have hrp:PartRow w6.drew (.slice aa P.length ac) (P.map (·.1)):=by
    unfold PartRow
    rw [List.length_map]
    exact Row.of_owns (owns_below ha6 hd6)
   have CT:=Hd (HTR.out w6.drew (P.map (·.1)) _ (by rw [List.length_map];exact hPL) ts hts hrp)
   obtain ⟨g,cap,w8,w9,v8,v9,hov,hcap,hcell,hfz,hr8,hr9,hw9⟩:=InW.step (HW.out.below hb6.drew) HUS.out hts (owns_below ha6 hd6) (owns_below hn6 hd6) (fun g e=>(HW.out.o.lt g e).2) (fun g e=>(HW.out.f.lt g e).2) hPM
   simp only [Value.slice.injEq,true_and] at hov
   obtain ⟨rfl,rfl⟩:=hov
   obtain ⟨a8,c8,rfl,_⟩:∃ a c,v8=.slice a _ c∧_≤c:=Row.shape (Row.of_owns hw9.o)
   obtain ⟨a9,c9,rfl,_⟩:∃ a c,v9=.slice a _ c∧_≤c:=Row.shape (Row.of_owns hw9.f)
   have HX:RowKit.Hid (inRel t l hs bs n q kp (endB t p) (some ⟨gk,0,none⟩) pk pw MK w (.slice a8 ((M++P).length+1) c8) (.slice a9 ((M++P).length+1) c9) (.int .i64 ((c:Int)+1)) w9):=Hd ⟨c+1,N,M++P,by push_cast;rfl,hlt,by rw [List.append_assoc];exact HMK2.out,HF2.out,by have:=HNN.out;omega,⟨us++ts,by rw [List.map_append];exact rowsB_app HUS.out hts⟩,hw9⟩
   rw [List.length_append] at HX
   have hul:us.length≤1000000000:=by
    have h1:=(rowsB_sum HUS.out).2.1
    rw [List.length_map] at h1
    omega
   have htl2:ts.length≤1000000000:=by
    have h1:=(rowsB_sum hts).2.1
    rw [List.length_map] at h1
    omega
   have hwu:IntKind.i64.wrap ((us.length:Int)+(ts.length:Int))=(us.length:Int)+(ts.length:Int):=by rw [IntKind.wrap_i64];omega
   clear hb6 ha6 hn6 hd6 hrp hw9 hPM hPL CI k0 hts
   go_upto_region 17 with (fail)
   have HTT:RowKit.Hid True:=Hd trivial
   refine wp_region_noPanic ?_
   refine wp_region_held_drew (S:=fun _=>RowKit.Hid True) (by kernel_rfl) HTT (fun hHeld=>?_)
   generalize w6.drew=wd at *
   refine tkH 0 90 ?vu1 rfl (by kernel_rfl) (fun _ _ _ h=>h) (Or.inl ⟨by kernel_rfl,?hyu1⟩) hHeld ?restu1
   case hyu1=>intro w hSw;(try dsimp only at hSw);go_simp;(try with_reducible rfl)
   (try simp only [aP])
   refine tkH 1 91 ?vu2 rfl (by kernel_rfl) (fun _ _ _ h=>h) (Or.inl ⟨by kernel_rfl,?hyu2⟩) hHeld ?restu2
   case hyu2=>intro w hSw;(try dsimp only at hSw);go_simp;(try with_reducible rfl)
   (try simp only [aP])
   refine tkH 2 92 ?vu3 rfl (by kernel_rfl) (fun _ _ _ h=>h) (Or.inl ⟨by kernel_rfl,?hyu3⟩) hHeld ?restu3
   case hyu3=>intro w hSw;(try dsimp only at hSw);go_simp;(try with_reducible rfl)
   (try simp only [aP])
   refine tkH 3 93 ?vu4 rfl (by kernel_rfl) (fun _ _ _ h=>h) (Or.inl ⟨by kernel_rfl,?hyu4⟩) hHeld ?restu4
   case hyu4=>intro w hSw;(try dsimp only at hSw);go_simp;(try with_reducible rfl)
   (try simp only [aP])
   refine tkH 5 95 ?vu5 rfl (by kernel_rfl) (fun _ _ _ h=>h) (Or.inl ⟨by kernel_rfl,?hyu5⟩) hHeld ?restu5
   case hyu5=>intro w hSw;(try dsimp only at hSw);go_simp;(try with_reducible rfl)
   (try simp only [aP])
   refine wpAnyH_ready (rs:=[4,6]) (by kernel_rfl) (by simp) ?_
   refine AllReadyH.cons (o:=⟨some 94,_,_,_,_,_⟩) rfl (fun K hK=>?qA) (AllReadyH.cons (o:=⟨some 96,_,_,_,_,_⟩) rfl (fun K hK=>?qB) AllReadyH.nil)
   case qA =>
    go_simp
    refine hK.out _ _ HTT (fun hH2=>?_)
    clear hK K hHeld
    (try simp only [aP])
    refine wpAnyH_ready (rs:=[6]) (by kernel_rfl) (by simp) ?_
    refine AllReadyH.cons (o:=⟨some 96,_,_,_,_,_⟩) rfl (fun K hK=>?_) AllReadyH.nil
    go_simp
    go_at_call 25
    refine CT.out.mono ?_
    rintro e w4 ⟨rfl,rfl⟩
    (try dsimp only)
    refine hK.out _ _ HTT (fun hH3=>?_)
    clear hK K hH2
    (try simp only [aP])
    refine tkH 7 97 ?vu6 rfl (by kernel_rfl) (fun _ _ _ h=>h) (Or.inl ⟨by kernel_rfl,?hyu6⟩) hH3 ?restu6
    case hyu6=>intro w hSw;(try dsimp only at hSw);go_simp;(try with_reducible rfl)
    (try simp only [aP])
    refine tkH 8 98 ?vu7 rfl (by kernel_rfl) (fun _ _ _ h=>h) (Or.inl ⟨by kernel_rfl,?hyu7⟩) hH3 ?restu7
    case hyu7=>intro w hSw;(try dsimp only at hSw);go_simp;(try with_reducible rfl)
    (try simp only [aP])
    refine tkH 9 99 ?vu8 rfl (by kernel_rfl) (fun _ _ _ h=>h) (Or.inl ⟨by kernel_rfl,?hyu8⟩) hH3 ?restu8
    case hyu8=>intro w hSw;(try dsimp only at hSw);go_simp;(try with_reducible rfl)
    (try simp only [aP])
    refine wpAnyH_ready (rs:=[10]) (by kernel_rfl) (by simp) ?_
    refine AllReadyH.cons (o:=⟨none,_,_,_,_,_⟩) rfl (fun K hK=>?_) AllReadyH.nil
    go_simp
    refine hK.out _ _ HTT (fun hH4=>?_)
    clear hK K hH3
    (try simp only [aP])
    refine wpAnyH_done (by kernel_rfl) ?_ _
    refine NoPanic.normal ?_
    go_upto_region 18 with (fail)
    clear hcell hfz
    go_upto_region 19 with (at_builtin;refine wpList_append_run rfl _ _ _ _ hr8 rfl rfl rfl rfl ?_)
    clear hr8
    go_wp2_with (at_builtin;refine wpList_append_run rfl _ _ _ _ hr9 rfl rfl rfl rfl ?_)
    exact ⟨HX.out,by have:=HMS.out;simp only [intOf];omega⟩
   case qB =>
    go_simp
    go_at_call 25
    refine CT.out.mono ?_
    rintro e w4 ⟨rfl,rfl⟩
    (try dsimp only)
    refine hK.out _ _ HTT (fun hH2=>?_)
    clear hK K hHeld
    (try simp only [aP])
    refine wpAnyH_ready (rs:=[4]) (by kernel_rfl) (by simp) ?_
    refine AllReadyH.cons (o:=⟨some 94,_,_,_,_,_⟩) rfl (fun K hK=>?_) AllReadyH.nil
    go_simp
    refine hK.out _ _ HTT (fun hH3=>?_)
    clear hK K hH2
    (try simp only [aP])
    refine tkH 7 97 ?vu9 rfl (by kernel_rfl) (fun _ _ _ h=>h) (Or.inl ⟨by kernel_rfl,?hyu9⟩) hH3 ?restu9
    case hyu9=>intro w hSw;(try dsimp only at hSw);go_simp;(try with_reducible rfl)
    (try simp only [aP])
    refine tkH 8 98 ?vu10 rfl (by kernel_rfl) (fun _ _ _ h=>h) (Or.inl ⟨by kernel_rfl,?hyu10⟩) hH3 ?restu10
    case hyu10=>intro w hSw;(try dsimp only at hSw);go_simp;(try with_reducible rfl)
    (try simp only [aP])
    refine tkH 9 99 ?vu11 rfl (by kernel_rfl) (fun _ _ _ h=>h) (Or.inl ⟨by kernel_rfl,?hyu11⟩) hH3 ?restu11
    case hyu11=>intro w hSw;(try dsimp only at hSw);go_simp;(try with_reducible rfl)
    (try simp only [aP])
    refine wpAnyH_ready (rs:=[10]) (by kernel_rfl) (by simp) ?_
    refine AllReadyH.cons (o:=⟨none,_,_,_,_,_⟩) rfl (fun K hK=>?_) AllReadyH.nil
    go_simp
    refine hK.out _ _ HTT (fun hH4=>?_)
    clear hK K hH3
    (try simp only [aP])
    refine wpAnyH_done (by kernel_rfl) ?_ _
    refine NoPanic.normal ?_
    go_upto_region 18 with (fail)
    clear hcell hfz
    go_upto_region 19 with (at_builtin;refine wpList_append_run rfl _ _ _ _ hr8 rfl rfl rfl rfl ?_)
    clear hr8
    go_wp2_with (at_builtin;refine wpList_append_run rfl _ _ _ _ hr9 rfl rfl rfl rfl ?_)
    exact ⟨HX.out,by have:=HMS.out;simp only [intOf];omega⟩
  ·obtain rfl:c=q:=by omega
   have hM:=HM.out
   rw [HKS.out.e,mk_end,List.append_nil] at hM
   have HF:=Hd (HQ.out _ _ wr HW.out.b (by rw [← hM];exact HW.out.o) (by rw [← hM];exact HW.out.f))
   have hcq:¬ (c:Int)<(c:Int):=by omega
   clear hM
   go_wp2_with fail
   exact HF.out
theorem ref_Inst {t l:List Prt} {hs:List Hl} {bs:List Bnd} (ok:InOK t l hs bs) (vt vh vb vl:Value):∀ n,InstC t l hs bs vt vh vb vl n:=by
 intro n
 induction n using Nat.strongRecOn with
 | ind n ih =>
  intro w p hi hp hf hlen
  have hg:=(endB_gt (well_rows ok.H.well) hp).1
  obtain ⟨m,rfl⟩:∃ m,n=m+1:=⟨n-1,by omega⟩
  cases ho:holeOf t hs p with
  | some h=>exact inst_hole ok vt vh vb vl m w p hi hp h ho
  | none=>exact inst_none ok vt vh vb vl m ih w p hi hp hf hlen ho
end Go.Proofs.YtmklemelgdilkaaGreatDoor
