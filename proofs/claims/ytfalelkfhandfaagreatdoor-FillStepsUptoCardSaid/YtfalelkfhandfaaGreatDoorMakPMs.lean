/- Layer 20: the maker's put, walked (printed by tools/genmakp.py out of tools/XMakP.head). -/
import Derived.Test.YtfalelkfhandfaaGreatDoorPackMs
import Derived.Test.YtfalelkfhandfaaGreatDoorKpMMs
import Derived.Test.YtfalelkfhandfaaGreatDoorQuoted6Ms
import Derived.Test.YtfalelkfhandfaaGreatDoorCopPMs
import Derived.Test.YtfalelkfhandfaaGreatDoorAppEqMs
namespace Go.Proofs.YtfalelkfhandfaaGreatDoor
set_option maxRecDepth 100000
set_option maxHeartbeats 32000000
set_option linter.all false
attribute [local irreducible] Calls
attribute [local irreducible] wpStill
open Go.RowKit

structure MkMd (w0:World) (E:MkE) (os:List Prt) (ns:List Int) (co cf:Value) (lg:Bool) (ov fv:Value) (W:World):Prop where
 b:Below w0.heap.size w0 W
 s:mkB E co cf lg W
 o:W.ownsRow E.B 38 3 ov os.length (zV os)
 f:W.ownsRow E.B 3 1 fv ns.length (intsV ns)
 g0:w0.heap.size≤E.g
 gB:E.g<E.B
 B:E.B≤W.heap.size
theorem MkIn.md {w0 W:World} {E:MkE} {out:List PN} {lg:Bool} {ov fv:Value} (h:MkIn w0 E out lg ov fv W):MkMd w0 E (out.map (·.1)) (out.map (·.2)) ov fv lg ov fv W :=
 ⟨h.b,h.s,by rw [List.length_map];exact h.o,by rw [List.length_map];exact h.f,h.g0,h.gB,h.B⟩
theorem MkMd.below {w0 W W':World} {E:MkE} {os:List Prt} {ns:List Int} {co cf ov fv:Value} {lg:Bool} (h:MkMd w0 E os ns co cf lg ov fv W) (hb:Below W.heap.size W W'):MkMd w0 E os ns co cf lg ov fv W' :=
 ⟨zB h.b hb,keeps hb h.s,zS h.o hb,zS h.f hb,h.g0,h.gB,by have:=h.B;have:=hb.size;omega⟩
theorem MkMd.alloc {w0 W:World} {E:MkE} {os:List Prt} {ns:List Int} {co cf ov fv:Value} {lg:Bool} (h:MkMd w0 E os ns co cf lg ov fv W) (o:Obj):MkMd w0 E os ns co cf lg ov fv (W.alloc o):=h.below ((Below.refl _ _).alloc (Nat.le_refl _) o)
theorem zGw (W:World) (b:Nat) (p:Prt) (h:W.heap[b]?=some (.cells #[.int .u8 (p.1:Int),.int .i64 p.2.1,.string p.2.2] 38 (0,0))):Row W (.slice (some ⟨b,0,none⟩) 1 1) 1 3 (zV [p]) :=
 ⟨rfl,some ⟨b,0,none⟩,1,rfl,Nat.le_refl _,by simp,fun _=>⟨b,0,rfl,zP h,fun i hi=>by
  simp only [World.cell?,h,Nat.zero_add]
  match i,hi with
  | 0,_=>rfl
  | 1,_=>rfl
  | 2,_=>rfl⟩⟩
theorem zLi (W:World) (b:Nat) (n:Int) (h:W.heap[b]?=some (.cells #[.int .i64 n] 3 (0,0))):Row W (.slice (some ⟨b,0,none⟩) 1 1) 1 1 (intsV [n]) :=
 ⟨rfl,some ⟨b,0,none⟩,1,rfl,Nat.le_refl _,by simp,fun _=>⟨b,0,rfl,zP h,fun i hi=>by
  simp only [World.cell?,h,Nat.zero_add]
  match i,hi with
  | 0,_=>rfl⟩⟩
theorem MkMd.part {w0 W:World} {E:MkE} {os:List Prt} {ns:List Int} {co cf ov fv:Value} {lg:Bool} (h:MkMd w0 E os ns co cf lg ov fv W) (p:Prt) (src:Value) (hr:Row W src 1 3 (zV [p])) (hn:os.length≤1000000) :
  ∃ v1 w1,(Builtin.append_ #[23,23] 23 #[ov,src]).run Tryz.prog W=.ok v1 w1∧MkMd w0 E (os++[p]) ns co cf lg v1 fv w1∧KpC E.g ov fv v1 fv W w1∧∀ b,b<W.heap.size→ov.ownBlock≠some b→w1.heap[b]?=W.heap[b]?:=by
 have hBs:=h.B
 obtain ⟨v1,w1,r1,o1,g1,p1⟩:=vV (P:=Tryz.prog) W 23 23 38 Tryz.underlying23 E.B kD rfl (by decide) ov os.length _ h.o src 1 (zV [p]) hr (fC [p]) (by omega) (by omega) hBs
 have k1:=(KpM.refl E.B E.g W).grown h.o hBs g1
 have f1:=xK h.o g1 h.f (by decide)
 have hgl:=zP h.s
 refine ⟨v1,w1,r1,⟨k1.below h.b (by have:=h.g0;have:=h.gB;omega) h.g0,?_,?_,f1,h.g0,h.gB,by have:=k1.size;omega⟩,⟨g1.os,g1.tape,g1.output,k1.size,fun k h1 h2 h3 _=>g1.block k h1 (fun e=>h3 e.symm),fun k e=>(by
  rcases p1 with q | q
  ·exact Or.inl (q ▸ e)
  ·rw [q] at e;have:=Option.some.inj e;exact Or.inr (by omega)),fun _ e=>Or.inl e⟩,fun b hb hne=>g1.block b hb (fun e=>hne e.symm)⟩
 ·unfold mkB
  rw [g1.block E.g hgl (fun e=>by have:=(h.o.lt E.g e.symm).1;have:=h.gB;omega)]
  exact h.s
 ·rw [List.length_append,yK];exact o1
theorem MkMd.num {w0 W:World} {E:MkE} {os:List Prt} {ns:List Int} {co cf ov fv:Value} {lg:Bool} (h:MkMd w0 E os ns co cf lg ov fv W) (n:Int) (src:Value) (hr:Row W src 1 1 (intsV [n])) (hn:ns.length≤1000000) :
  ∃ v1 w1,(Builtin.append_ #[27,27] 27 #[fv,src]).run Tryz.prog W=.ok v1 w1∧MkMd w0 E os (ns++[n]) co cf lg ov v1 w1∧KpC E.g ov fv ov v1 W w1∧∀ b,b<W.heap.size→fv.ownBlock≠some b→w1.heap[b]?=W.heap[b]?:=by
 have hBs:=h.B
 obtain ⟨v1,w1,r1,o1,g1,p1⟩:=vV (P:=Tryz.prog) W 27 27 3 Tryz.underlying27 E.B xY rfl (by decide) fv ns.length _ h.f src 1 (intsV [n]) hr (zBx [n]) (by omega) (by omega) hBs
 have k1:=(KpM.refl E.B E.g W).grown h.f hBs g1
 have f1:=xK h.f g1 h.o (by decide)
 have hgl:=zP h.s
 refine ⟨v1,w1,r1,⟨k1.below h.b (by have:=h.g0;have:=h.gB;omega) h.g0,?_,f1,?_,h.g0,h.gB,by have:=k1.size;omega⟩,⟨g1.os,g1.tape,g1.output,k1.size,fun k h1 h2 _ h3=>g1.block k h1 (fun e=>h3 e.symm),fun _ e=>Or.inl e,fun k e=>(by
  rcases p1 with q | q
  ·exact Or.inl (q ▸ e)
  ·rw [q] at e;have:=Option.some.inj e;exact Or.inr (by omega))⟩,fun b hb hne=>g1.block b hb (fun e=>hne e.symm)⟩
 ·unfold mkB
  rw [g1.block E.g hgl (fun e=>by have:=(h.f.lt E.g e.symm).1;have:=h.gB;omega)]
  exact h.s
 ·rw [List.length_append,kX];exact o1
theorem MkMd.fin {w0 W:World} {E:MkE} {os:List Prt} {ns:List Int} {co cf ov fv:Value} {lg:Bool} (h:MkMd w0 E os ns co cf lg ov fv W) :
  MkMd w0 E os ns ov fv lg ov fv ((W.setCell ⟨E.g,8,none⟩ ov).setCell ⟨E.g,9,none⟩ fv)∧(W.setCell ⟨E.g,8,none⟩ ov).frozen? ⟨E.g,9,none⟩=false∧(W.setCell ⟨E.g,8,none⟩ ov).cell? ⟨E.g,9,none⟩=some cf:=by
 have s3:=h.s.set.1 ov
 have s4:=s3.set.2.1 fv
 refine ⟨⟨(h.b.setCell (p:=⟨E.g,8,none⟩) h.g0 _).setCell (p:=⟨E.g,9,none⟩) h.g0 _,s4,kH (kH h.o h.gB _ _) h.gB _ _,kH (kH h.f h.gB _ _) h.gB _ _,h.g0,h.gB,by simpa using h.B⟩,s3.cells.2.2.2.2.2.2.2.2.2.2.2 9,s3.cells.2.2.2.2.2.2.2.2.2.1⟩
@[irreducible] def mkPost (w0:World) (E:MkE) (out:List PN) (lg:Bool) (ov fv:Value) (M:List PN) (W:World) (v:Value→Prop) (e:Ending) (w':World):Prop :=
 ∃ out' lg' ov' fv' u,e=.returned u∧v u∧mkGo out lg M out' lg'∧out'.length≤131073∧MkIn w0 E out' lg' ov' fv' w'∧KpC E.g ov fv ov' fv' W w'
theorem MkMd.toIn {w0 W:World} {E:MkE} {os:List Prt} {ns:List Int} {ov fv:Value} {lg:Bool} {out:List PN} (h:MkMd w0 E os ns ov fv lg ov fv W) (h1:out.map (·.1)=os) (h2:out.map (·.2)=ns):MkIn w0 E out lg ov fv W:=by
 subst h1 h2
 have h3:=h.o
 have h4:=h.f
 rw [List.length_map] at h3 h4
 exact ⟨h.b,h.s,h3,h4,h.g0,h.gB,h.B⟩
theorem zVx (w0:World) (E:MkE) (out:List PN) (lg:Bool) (ov fv:Value) (W:World) (hi:MkIn w0 E out lg ov fv W) (hn:out.length≤131073) (p:Prt) (nf:Int) :
  Calls Tryz.prog 41 #[.pointer (some ⟨E.g,0,none⟩),partA p,.int .i64 nf] W (mkPost w0 E out lg ov fv [(p,nf)] W fun _=>True):=by
 have HNO:Hid ((lg=true∨131072<out.length)→∀ w' (v:Value),MkIn w0 E out true ov fv w'→KpC E.g ov fv ov fv W w'→mkPost w0 E out lg ov fv [(p,nf)] W (fun _=>True) (.returned v) w'):=Hd fun h w' v h1 h2=>by
  unfold mkPost
  refine ⟨out,true,ov,fv,v,rfl,trivial,⟨fun c=>?_,fun _=>rfl⟩,hn,h1,h2⟩
  rcases h with h | h
  ·rw [h] at c;cases c.1
  ·have:=c.2;simp at this;omega
 have HYES:Hid (lg=false→out.length≤131072→∀ w' v1 v2,MkMd w0 E (out.map (·.1)++[p]) (out.map (·.2)++[nf]) v1 v2 false v1 v2 w'→KpC E.g ov fv v1 v2 W w'→∀ v:Value,mkPost w0 E out lg ov fv [(p,nf)] W (fun _=>True) (.returned v) w'):=Hd fun h h0 w' v1 v2 h1 h2 v=>by
  unfold mkPost
  refine ⟨out++[(p,nf)],false,v1,v2,v,rfl,trivial,⟨fun _=>⟨rfl,rfl⟩,fun c=>absurd ⟨h,by simp;omega⟩ c⟩,by simp;omega,h1.toIn (by simp) (by simp),h2⟩
 generalize mkPost w0 E out lg ov fv [(p,nf)] W (fun _=>True)=Q at *
 obtain ⟨pk,pn,pw⟩:=p
 obtain ⟨c0,c1,c2,c3,c4,c5,c6,c7,c8,c9,c10,cz⟩:=hi.s.cells
 clear c0 c1 c2 c3 c4 c5 c6 c7 c9
 have hBs:=hi.B
 have HNW:Hid (ov.ownBlock≠some W.heap.size∧fv.ownBlock≠some W.heap.size):=Hd ⟨fun e=>by have:=(hi.o.lt _ e).2;omega,fun e=>by have:=(hi.f.lt _ e).2;omega⟩
 obtain ⟨oa,oc,rfl,hoc⟩:=Row.shape (Row.of_owns hi.o)
 obtain ⟨fa,fc,rfl,hfc⟩:=Row.shape (Row.of_owns hi.f)
 have HI:=Hd hi
 have HP1:Hid (PK (W.alloc (.cells #[.int .u8 (pk:Int),.int .i64 pn,.string pw] 38)) W.heap.size (pk,pn,pw)):=Hd (PK.alloc_new W (pk,pn,pw))
 have HB1:Hid (Below W.heap.size W (W.alloc (.cells #[.int .u8 (pk:Int),.int .i64 pn,.string pw] 38))):=Hd ((Below.refl _ _).alloc (Nat.le_refl _) _)
 have hgl:=zP hi.s
 have hgne:W.heap.size≠E.g:=by omega
 clear hi
 unfold partA
 go_enter Tryz.func41,Tryz.ntmps41
 go_upto_region 1 with (fail)
 generalize W.alloc (.cells #[.int .u8 (pk:Int),.int .i64 pn,.string pw] 38)=W1 at *
 have HI1:=Hd (HI.out.below HB1.out)
 obtain ⟨c0,c1,c2,c3,c4,c5,c6,c7,c8,c9,c10,cz⟩:=HI1.out.s.cells
 have z10:=cz 10
 clear c0 c1 c2 c3 c4 c5 c6 c7 c9
 have HK1:=Hd (KpC.of_below (g:=E.g) (ov:=.slice oa out.length oc) (nv:=.slice fa out.length fc) HB1.out)
 by_cases hlg:lg=true∨131072<out.length
 ·have HX:=Hd (HNO.out hlg (W1.setCell ⟨E.g,10,none⟩ (.bool true)) · (HI1.out.long true).1 (HK1.out.setG 10 (.bool true)))
  have hc:(lg || decide ((131072:Int)<(out.length:Int)))=true:=by
   rcases hlg with h | h
   ·rw [h];rfl
   ·rw [decide_eq_true (by omega),Bool.or_true]
  have HS:Hid (mkB E (.slice oa out.length oc) (.slice fa out.length fc) true (W1.setCell ⟨E.g,10,none⟩ (.bool true))):=Hd (HI1.out.long true).1.s
  cases lg with
  | true =>
   clear hlg hc
   go_upto_region 2 with (fail)
   clear c8 c10 cz z10
   generalize W1.setCell ⟨E.g,10,none⟩ (.bool true)=W2 at *
   have c10:=HS.out.cells.2.2.2.2.2.2.2.2.2.2.1
   go_wp2_with fail
   go_end0
   exact HX.out _
  | false =>
   have h1:(131072:Int)<(out.length:Int):=by
    rcases hlg with h | h
    ·cases h
    ·omega
   clear hlg hc
   go_upto_region 2 with (fail)
   clear c8 c10 cz z10
   generalize W1.setCell ⟨E.g,10,none⟩ (.bool true)=W2 at *
   have c10:=HS.out.cells.2.2.2.2.2.2.2.2.2.2.1
   go_wp2_with fail
   go_end0
   exact HX.out _
 ·have hlf:lg=false:=by
   cases lg with
   | true=>exact absurd (Or.inl rfl) hlg
   | false=>rfl
  subst hlf
  have hol:out.length≤131072:=by
   rcases Nat.lt_or_ge 131072 out.length with h | h
   ·exact absurd (Or.inr h) hlg
   ·exact h
  have HYES:=Hd (HYES.out rfl hol)
  have h1:¬ (131072:Int)<(out.length:Int):=by omega
  have HM2:Hid (MkMd w0 E (out.map (·.1)) (out.map (·.2)) (.slice oa out.length oc) (.slice fa out.length fc) false (.slice oa out.length oc) (.slice fa out.length fc) (W1.setCell ⟨E.g,10,none⟩ (.bool false))):=Hd (HI1.out.long false).1.md
  have HK2:=Hd (HK1.out.setG 10 (.bool false))
  have HP2:Hid (PK (W1.setCell ⟨E.g,10,none⟩ (.bool false)) W.heap.size (pk,pn,pw)):=Hd (by have h:=HP1.out;unfold PK at *;rw [heap_setCell_other _ _ _ _ hgne];exact h)
  clear hlg HNO
  go_upto_region 2 with (fail)
  clear c8 c10 cz z10
  generalize W1.setCell ⟨E.g,10,none⟩ (.bool false)=W2 at *
  have c10:=HM2.out.s.cells.2.2.2.2.2.2.2.2.2.2.1
  go_upto_region 3 with (fail)
  clear c10
  generalize hov:Value.slice oa out.length oc=ov at *
  generalize hfv:Value.slice fa out.length fc=fv at *
  refine kS (S:=fun W'=>W'.cell? ⟨E.g,8,none⟩=some ov∧W'.cell? ⟨E.g,9,none⟩=some fv∧W'.cell? ⟨W.heap.size,0,none⟩=some (.int .u8 (pk:Int))∧W'.cell? ⟨W.heap.size,1,none⟩=some (.int .i64 pn)∧W'.cell? ⟨W.heap.size,2,none⟩=some (.string pw)) [18] (by kernel_rfl) ?_
  have HMD:Hid (MkMd w0 E (out.map (·.1)) (out.map (·.2)) ov fv false ov fv W2.drew):=Hd (HM2.out.below (Below.refl _ _).drew)
  have HPD:Hid (PK W2.drew W.heap.size (pk,pn,pw)):=Hd (HP2.out.keep (Below.refl _ _).drew)
  have HKD:Hid (KpC E.g ov fv ov fv W W2.drew):=Hd (HK2.out.trans (KpC.of_below (Below.refl _ _).drew))
  have hNW:W.heap.size<W2.drew.heap.size:=lt_of_block HPD.out
  clear HM2 HP2 HK2
  generalize W2.drew=wd at *
  have HSA:Hid (∀ W' (os:List Prt) (ns:List Int) (v1 v2:Value),MkMd w0 E os ns ov fv false v1 v2 W'→PK W' W.heap.size (pk,pn,pw)→(fun W'=>W'.cell? ⟨E.g,8,none⟩=some ov∧W'.cell? ⟨E.g,9,none⟩=some fv∧W'.cell? ⟨W.heap.size,0,none⟩=some (.int .u8 (pk:Int))∧W'.cell? ⟨W.heap.size,1,none⟩=some (.int .i64 pn)∧W'.cell? ⟨W.heap.size,2,none⟩=some (.string pw)) W'):=Hd fun W' os ns v1 v2 h hp=>⟨h.s.cells.2.2.2.2.2.2.2.2.1,h.s.cells.2.2.2.2.2.2.2.2.2.1,hp.c0,hp.c1,hp.c2⟩
  have hS0:=HSA.out wd _ _ _ _ HMD.out HPD.out
  refine tkF 0 26 ?vq1 rfl ?hyq1 (fun _=>hS0) ?restq1
  case hyq1=>intro w q;clear q;go_simp;(try with_reducible rfl)
  (try simp only [aP])
  refine tkF 1 27 ?vq2 rfl ?hyq2 (fun _=>hS0) ?restq2
  case hyq2=>intro w q;clear q;go_simp;(try with_reducible rfl)
  (try simp only [aP])
  refine tkF 2 28 ?vq3 rfl ?hyq3 (fun _=>hS0) ?restq3
  case hyq3=>intro w q;clear q;go_simp;(try with_reducible rfl)
  (try simp only [aP])
  refine tkF 3 29 ?vq4 rfl ?hyq4 (fun _=>hS0) ?restq4
  case hyq4=>intro w q;clear q;go_simp;(try with_reducible rfl)
  (try simp only [aP])
  refine tkF 4 30 ?vq5 rfl ?hyq5 (fun _=>hS0) ?restq5
  case hyq5=>intro w q;clear q;go_simp;(try with_reducible rfl)
  (try simp only [aP])
  refine tkU [18] 5 31 ?vq6 rfl ?hyq6 hS0 ?restq6
  case hyq6=>intro w q;(try dsimp only at q);go_simp;(try with_reducible rfl)
  (try simp only [aP])
  refine tkU [18] 6 32 ?vq7 rfl ?hyq7 hS0 ?restq7
  case hyq7=>intro w q;(try dsimp only at q);go_simp;(try with_reducible rfl)
  (try simp only [aP])
  refine tkF 9 35 ?vq8 rfl ?hyq8 (fun _=>hS0) ?restq8
  case hyq8=>intro w q;clear q;go_simp;(try with_reducible rfl)
  (try simp only [aP])
  refine tkF 10 36 ?vq9 rfl ?hyq9 (fun _=>hS0) ?restq9
  case hyq9=>intro w q;clear q;go_simp;(try with_reducible rfl)
  (try simp only [aP])
  refine tkF 11 37 ?vq10 rfl ?hyq10 (fun _=>hS0) ?restq10
  case hyq10=>intro w q;clear q;go_simp;(try with_reducible rfl)
  (try simp only [aP])
  refine tkU [18] 12 38 ?vq11 rfl ?hyq11 hS0 ?restq11
  case hyq11=>intro w q;(try dsimp only at q);go_simp;(try with_reducible rfl)
  (try simp only [aP])
  refine tkF 13 39 ?vq12 rfl ?hyq12 (fun _=>hS0) ?restq12
  case hyq12=>intro w q;clear q;go_simp;(try with_reducible rfl)
  (try simp only [aP])
  refine yB (rs:=[7,14]) (by kernel_rfl) (by simp) ?_
  refine zJ.cons (o:=⟨some 33,_,_,_,_,_⟩) rfl (fun K hK=>?a1) (zJ.cons (o:=⟨some 40,_,_,_,_,_⟩) rfl (fun K hK=>?a2) zJ.nil)
  case a1 =>
   go_simp
   have HM1:=Hd (HMD.out.alloc (.cells #[.int .u8 (pk:Int),.int .i64 pn,.string pw] 38))
   have HP1:=Hd (HPD.out.keep ((Below.refl _ _).alloc (Nat.le_refl _) (.cells #[.int .u8 (pk:Int),.int .i64 pn,.string pw] 38)))
   have HK1:=Hd (HKD.out.trans (KpC.of_below ((Below.refl _ _).alloc (Nat.le_refl _) (.cells #[.int .u8 (pk:Int),.int .i64 pn,.string pw] 38))))
   refine hK.out _ (wd.alloc (.cells #[.int .u8 (pk:Int),.int .i64 pn,.string pw] 38)) (fun _=>HSA.out _ _ _ _ _ HM1.out HP1.out) ?_
   clear hK K
   (try simp only [aP])
   have HL1:Hid ((wd.alloc (.cells #[.int .u8 (pk:Int),.int .i64 pn,.string pw] 38)).heap[wd.heap.size]?=some (.cells #[.int .u8 (pk:Int),.int .i64 pn,.string pw] 38 (0,0))):=Hd (heap_alloc_new _ _)
   have HNO:Hid (ov.ownBlock≠some W.heap.size∧fv.ownBlock≠some W.heap.size):=HNW
   refine yB (rs:=[8,14]) (by kernel_rfl) (by simp) ?_
   refine zJ.cons (o:=⟨some 34,_,_,_,_,_⟩) rfl (fun K hK=>?b1) (zJ.cons (o:=⟨some 40,_,_,_,_,_⟩) rfl (fun K hK=>?b2) zJ.nil)
   case b1 =>
    rw [if_pos (by kernel_rfl)]
    obtain ⟨v2,w2,hr,hm2,hkk,hno⟩:=HM1.out.part (pk,pn,pw) _ (zGw _ _ (pk,pn,pw) HL1.out) (by simp;omega)
    obtain ⟨v2a,v2n,v2c,rfl⟩:=zL hm2.o
    have HM2:=Hd hm2
    have HK2:=Hd (HK1.out.trans hkk)
    have HNO2:=Hd hno
    have HP2:Hid (PK w2 W.heap.size (pk,pn,pw)):=Hd (by have h:=HP1.out;unfold PK at *;rw [hno _ (lt_of_block h) HNO.out.1];exact h)
    clear hm2 hkk hno
    refine yP _ _ _ _ hr rfl rfl rfl rfl ?_
    refine hK.out _ _ (fun _=>HSA.out _ _ _ _ _ HM2.out HP2.out) ?_
    clear hK K hr
    (try simp only [aP])
    refine yB (rs:=[14]) (by kernel_rfl) (by simp) ?_
    refine zJ.cons (o:=⟨some 40,_,_,_,_,_⟩) rfl (fun K hK=>?_) zJ.nil
    go_simp
    have HM3:=Hd (HM2.out.alloc (.cells #[.int .i64 nf] 3))
    have HP3:=Hd (HP2.out.keep ((Below.refl _ _).alloc (Nat.le_refl _) (.cells #[.int .i64 nf] 3)))
    have HK3:=Hd (HK2.out.trans (KpC.of_below ((Below.refl _ _).alloc (Nat.le_refl _) (.cells #[.int .i64 nf] 3))))
    refine hK.out _ (w2.alloc (.cells #[.int .i64 nf] 3)) (fun _=>HSA.out _ _ _ _ _ HM3.out HP3.out) ?_
    clear hK K
    (try simp only [aP])
    refine yB (rs:=[15]) (by kernel_rfl) (by simp) ?_
    refine zJ.cons (o:=⟨some 41,_,_,_,_,_⟩) rfl (fun K hK=>?_) zJ.nil
    rw [if_pos (by kernel_rfl)]
    obtain ⟨v4,w4,hr,hm4,hkk,hno⟩:=HM3.out.num (nf) _ (zLi _ _ nf (heap_alloc_new _ _)) (by simp;omega)
    obtain ⟨v4a,v4n,v4c,rfl⟩:=zL hm4.f
    have HM4:=Hd hm4
    have HK4:=Hd (HK3.out.trans hkk)
    have HNO4:=Hd hno
    have HP4:Hid (PK w4 W.heap.size (pk,pn,pw)):=Hd (by have h:=HP3.out;unfold PK at *;rw [hno _ (lt_of_block h) HNO.out.2];exact h)
    clear hm4 hkk hno
    refine yP _ _ _ _ hr rfl rfl rfl rfl ?_
    refine hK.out _ _ (fun _=>HSA.out _ _ _ _ _ HM4.out HP4.out) ?_
    clear hK K hr
    (try simp only [aP])
    have HPz:=HP4
    refine tkF 16 42 ?vq13 rfl ?hyq13 (fun _=>HSA.out _ _ _ _ _ HM4.out HPz.out) ?restq13
    case hyq13=>intro w q;clear q;go_simp;(try with_reducible rfl)
    (try simp only [aP])
    refine tkF 17 43 ?vq14 rfl ?hyq14 (fun _=>HSA.out _ _ _ _ _ HM4.out HPz.out) ?restq14
    case hyq14=>intro w q;clear q;go_simp;(try with_reducible rfl)
    (try simp only [aP])
    have HC:=Hd (HM4.out.s.cells)
    obtain ⟨c0,c1,c2,c3,c4,c5,c6,c7,c8,c9,c10,cz⟩:=HC.out
    have z8:=cz 8
    have HF:=Hd (HM4.out.fin)
    have HG:=Hd ((HK4.out.setG 8 (.slice v2a v2n v2c)).setG 9 (.slice v4a v4n v4c))
    have z9:=HF.out.2.1
    have c9':=HF.out.2.2
    refine yB (rs:=[18]) (by kernel_rfl) (by simp) ?_
    refine zJ.cons (o:=⟨none,_,_,_,_,_⟩) rfl (fun K hK=>?_) zJ.nil
    go_simp
    refine hK.out _ _ (fun h=>Bool.noConfusion (h.symm.trans (by kernel_rfl:_=false))) ?_
    clear hK K c0 c1 c2 c3 c4 c5 c6 c7 c8 c9 c10 cz
    (try simp only [aP])
    refine tkF 19 44 ?vq15 rfl ?hyq15 (fun h=>Bool.noConfusion (h.symm.trans (by kernel_rfl:_=false))) ?restq15
    case hyq15=>intro w q;clear q;go_simp;(try with_reducible rfl)
    (try simp only [aP])
    refine tkF 20 45 ?vq16 rfl ?hyq16 (fun h=>Bool.noConfusion (h.symm.trans (by kernel_rfl:_=false))) ?restq16
    case hyq16=>intro w q;clear q;go_simp;(try with_reducible rfl)
    (try simp only [aP])
    refine yB (rs:=[21]) (by kernel_rfl) (by simp) ?_
    refine zJ.cons (o:=⟨none,_,_,_,_,_⟩) rfl (fun K hK=>?_) zJ.nil
    go_simp
    refine hK.out _ _ (fun h=>Bool.noConfusion (h.symm.trans (by kernel_rfl:_=false))) ?_
    clear hK K z9 c9' z8
    (try simp only [aP])
    refine jD (by kernel_rfl) ?_ _
    have HX:=Hd (HYES.out _ _ _ HF.out.1 HG.out)
    go_wp2_with fail
    go_end0
    exact HX.out _
   case b2 =>
    go_simp
    have HM2:=Hd (HM1.out.alloc (.cells #[.int .i64 nf] 3))
    have HP2:=Hd (HP1.out.keep ((Below.refl _ _).alloc (Nat.le_refl _) (.cells #[.int .i64 nf] 3)))
    have HK2:=Hd (HK1.out.trans (KpC.of_below ((Below.refl _ _).alloc (Nat.le_refl _) (.cells #[.int .i64 nf] 3))))
    refine hK.out _ ((wd.alloc (.cells #[.int .u8 (pk:Int),.int .i64 pn,.string pw] 38)).alloc (.cells #[.int .i64 nf] 3)) (fun _=>HSA.out _ _ _ _ _ HM2.out HP2.out) ?_
    clear hK K
    (try simp only [aP])
    have HL2:Hid (((wd.alloc (.cells #[.int .u8 (pk:Int),.int .i64 pn,.string pw] 38)).alloc (.cells #[.int .i64 nf] 3)).heap[wd.heap.size]?=some (.cells #[.int .u8 (pk:Int),.int .i64 pn,.string pw] 38 (0,0))):=Hd (by rw [Below.heap_alloc _ _ _ (by simp)];exact HL1.out)
    have HL3:Hid (((wd.alloc (.cells #[.int .u8 (pk:Int),.int .i64 pn,.string pw] 38)).alloc (.cells #[.int .i64 nf] 3)).heap[wd.heap.size+1]?=some (.cells #[.int .i64 nf] 3 (0,0))):=Hd (by have:=heap_alloc_new (wd.alloc (.cells #[.int .u8 (pk:Int),.int .i64 pn,.string pw] 38)) (.cells #[.int .i64 nf] 3);rwa [World.size_alloc] at this)
    refine yB (rs:=[8]) (by kernel_rfl) (by simp) ?_
    refine zJ.cons (o:=⟨some 34,_,_,_,_,_⟩) rfl (fun K hK=>?_) zJ.nil
    rw [if_pos (by kernel_rfl)]
    obtain ⟨v3,w3,hr,hm3,hkk,hno⟩:=HM2.out.part (pk,pn,pw) _ (zGw _ _ (pk,pn,pw) HL2.out) (by simp;omega)
    obtain ⟨v3a,v3n,v3c,rfl⟩:=zL hm3.o
    have HM3:=Hd hm3
    have HK3:=Hd (HK2.out.trans hkk)
    have HNO3:=Hd hno
    have HP3:Hid (PK w3 W.heap.size (pk,pn,pw)):=Hd (by have h:=HP2.out;unfold PK at *;rw [hno _ (lt_of_block h) HNO.out.1];exact h)
    clear hm3 hkk hno
    refine yP _ _ _ _ hr rfl rfl rfl rfl ?_
    refine hK.out _ _ (fun _=>HSA.out _ _ _ _ _ HM3.out HP3.out) ?_
    clear hK K hr
    (try simp only [aP])
    have HL4:=Hd ((HNO3.out _ (zP HL3.out) (fun e=>by have:=(HMD.out.o.lt _ e).2;omega)).trans HL3.out)
    refine yB (rs:=[15]) (by kernel_rfl) (by simp) ?_
    refine zJ.cons (o:=⟨some 41,_,_,_,_,_⟩) rfl (fun K hK=>?_) zJ.nil
    rw [if_pos (by kernel_rfl)]
    obtain ⟨v4,w4,hr,hm4,hkk,hno⟩:=HM3.out.num (nf) _ (zLi _ _ nf HL4.out) (by simp;omega)
    obtain ⟨v4a,v4n,v4c,rfl⟩:=zL hm4.f
    have HM4:=Hd hm4
    have HK4:=Hd (HK3.out.trans hkk)
    have HNO4:=Hd hno
    have HP4:Hid (PK w4 W.heap.size (pk,pn,pw)):=Hd (by have h:=HP3.out;unfold PK at *;rw [hno _ (lt_of_block h) HNO.out.2];exact h)
    clear hm4 hkk hno
    refine yP _ _ _ _ hr rfl rfl rfl rfl ?_
    refine hK.out _ _ (fun _=>HSA.out _ _ _ _ _ HM4.out HP4.out) ?_
    clear hK K hr
    (try simp only [aP])
    have HPz:=HP4
    refine tkF 16 42 ?vq17 rfl ?hyq17 (fun _=>HSA.out _ _ _ _ _ HM4.out HPz.out) ?restq17
    case hyq17=>intro w q;clear q;go_simp;(try with_reducible rfl)
    (try simp only [aP])
    refine tkF 17 43 ?vq18 rfl ?hyq18 (fun _=>HSA.out _ _ _ _ _ HM4.out HPz.out) ?restq18
    case hyq18=>intro w q;clear q;go_simp;(try with_reducible rfl)
    (try simp only [aP])
    have HC:=Hd (HM4.out.s.cells)
    obtain ⟨c0,c1,c2,c3,c4,c5,c6,c7,c8,c9,c10,cz⟩:=HC.out
    have z8:=cz 8
    have HF:=Hd (HM4.out.fin)
    have HG:=Hd ((HK4.out.setG 8 (.slice v3a v3n v3c)).setG 9 (.slice v4a v4n v4c))
    have z9:=HF.out.2.1
    have c9':=HF.out.2.2
    refine yB (rs:=[18]) (by kernel_rfl) (by simp) ?_
    refine zJ.cons (o:=⟨none,_,_,_,_,_⟩) rfl (fun K hK=>?_) zJ.nil
    go_simp
    refine hK.out _ _ (fun h=>Bool.noConfusion (h.symm.trans (by kernel_rfl:_=false))) ?_
    clear hK K c0 c1 c2 c3 c4 c5 c6 c7 c8 c9 c10 cz
    (try simp only [aP])
    refine tkF 19 44 ?vq19 rfl ?hyq19 (fun h=>Bool.noConfusion (h.symm.trans (by kernel_rfl:_=false))) ?restq19
    case hyq19=>intro w q;clear q;go_simp;(try with_reducible rfl)
    (try simp only [aP])
    refine tkF 20 45 ?vq20 rfl ?hyq20 (fun h=>Bool.noConfusion (h.symm.trans (by kernel_rfl:_=false))) ?restq20
    case hyq20=>intro w q;clear q;go_simp;(try with_reducible rfl)
    (try simp only [aP])
    refine yB (rs:=[21]) (by kernel_rfl) (by simp) ?_
    refine zJ.cons (o:=⟨none,_,_,_,_,_⟩) rfl (fun K hK=>?_) zJ.nil
    go_simp
    refine hK.out _ _ (fun h=>Bool.noConfusion (h.symm.trans (by kernel_rfl:_=false))) ?_
    clear hK K z9 c9' z8
    (try simp only [aP])
    refine jD (by kernel_rfl) ?_ _
    have HX:=Hd (HYES.out _ _ _ HF.out.1 HG.out)
    go_wp2_with fail
    go_end0
    exact HX.out _
  case a2 =>
   go_simp
   have HM1:=Hd (HMD.out.alloc (.cells #[.int .i64 nf] 3))
   have HP1:=Hd (HPD.out.keep ((Below.refl _ _).alloc (Nat.le_refl _) (.cells #[.int .i64 nf] 3)))
   have HK1:=Hd (HKD.out.trans (KpC.of_below ((Below.refl _ _).alloc (Nat.le_refl _) (.cells #[.int .i64 nf] 3))))
   refine hK.out _ (wd.alloc (.cells #[.int .i64 nf] 3)) (fun _=>HSA.out _ _ _ _ _ HM1.out HP1.out) ?_
   clear hK K
   (try simp only [aP])
   have HL1:Hid ((wd.alloc (.cells #[.int .i64 nf] 3)).heap[wd.heap.size]?=some (.cells #[.int .i64 nf] 3 (0,0))):=Hd (heap_alloc_new _ _)
   have HNO:Hid (ov.ownBlock≠some W.heap.size∧fv.ownBlock≠some W.heap.size):=HNW
   refine yB (rs:=[7]) (by kernel_rfl) (by simp) ?_
   refine zJ.cons (o:=⟨some 33,_,_,_,_,_⟩) rfl (fun K hK=>?_) zJ.nil
   go_simp
   have HM2:=Hd (HM1.out.alloc (.cells #[.int .u8 (pk:Int),.int .i64 pn,.string pw] 38))
   have HP2:=Hd (HP1.out.keep ((Below.refl _ _).alloc (Nat.le_refl _) (.cells #[.int .u8 (pk:Int),.int .i64 pn,.string pw] 38)))
   have HK2:=Hd (HK1.out.trans (KpC.of_below ((Below.refl _ _).alloc (Nat.le_refl _) (.cells #[.int .u8 (pk:Int),.int .i64 pn,.string pw] 38))))
   refine hK.out _ ((wd.alloc (.cells #[.int .i64 nf] 3)).alloc (.cells #[.int .u8 (pk:Int),.int .i64 pn,.string pw] 38)) (fun _=>HSA.out _ _ _ _ _ HM2.out HP2.out) ?_
   clear hK K
   (try simp only [aP])
   have HL2:Hid (((wd.alloc (.cells #[.int .i64 nf] 3)).alloc (.cells #[.int .u8 (pk:Int),.int .i64 pn,.string pw] 38)).heap[wd.heap.size]?=some (.cells #[.int .i64 nf] 3 (0,0))):=Hd (by rw [Below.heap_alloc _ _ _ (by simp)];exact HL1.out)
   have HL3:Hid (((wd.alloc (.cells #[.int .i64 nf] 3)).alloc (.cells #[.int .u8 (pk:Int),.int .i64 pn,.string pw] 38)).heap[wd.heap.size+1]?=some (.cells #[.int .u8 (pk:Int),.int .i64 pn,.string pw] 38 (0,0))):=Hd (by have:=heap_alloc_new (wd.alloc (.cells #[.int .i64 nf] 3)) (.cells #[.int .u8 (pk:Int),.int .i64 pn,.string pw] 38);rwa [World.size_alloc] at this)
   refine yB (rs:=[8]) (by kernel_rfl) (by simp) ?_
   refine zJ.cons (o:=⟨some 34,_,_,_,_,_⟩) rfl (fun K hK=>?_) zJ.nil
   rw [if_pos (by kernel_rfl)]
   obtain ⟨v3,w3,hr,hm3,hkk,hno⟩:=HM2.out.part (pk,pn,pw) _ (zGw _ _ (pk,pn,pw) HL3.out) (by simp;omega)
   obtain ⟨v3a,v3n,v3c,rfl⟩:=zL hm3.o
   have HM3:=Hd hm3
   have HK3:=Hd (HK2.out.trans hkk)
   have HNO3:=Hd hno
   have HP3:Hid (PK w3 W.heap.size (pk,pn,pw)):=Hd (by have h:=HP2.out;unfold PK at *;rw [hno _ (lt_of_block h) HNO.out.1];exact h)
   clear hm3 hkk hno
   refine yP _ _ _ _ hr rfl rfl rfl rfl ?_
   refine hK.out _ _ (fun _=>HSA.out _ _ _ _ _ HM3.out HP3.out) ?_
   clear hK K hr
   (try simp only [aP])
   have HL4:=Hd ((HNO3.out _ (zP HL2.out) (fun e=>by have:=(HMD.out.o.lt _ e).2;omega)).trans HL2.out)
   refine yB (rs:=[15]) (by kernel_rfl) (by simp) ?_
   refine zJ.cons (o:=⟨some 41,_,_,_,_,_⟩) rfl (fun K hK=>?_) zJ.nil
   rw [if_pos (by kernel_rfl)]
   obtain ⟨v4,w4,hr,hm4,hkk,hno⟩:=HM3.out.num (nf) _ (zLi _ _ nf HL4.out) (by simp;omega)
   obtain ⟨v4a,v4n,v4c,rfl⟩:=zL hm4.f
   have HM4:=Hd hm4
   have HK4:=Hd (HK3.out.trans hkk)
   have HNO4:=Hd hno
   have HP4:Hid (PK w4 W.heap.size (pk,pn,pw)):=Hd (by have h:=HP3.out;unfold PK at *;rw [hno _ (lt_of_block h) HNO.out.2];exact h)
   clear hm4 hkk hno
   refine yP _ _ _ _ hr rfl rfl rfl rfl ?_
   refine hK.out _ _ (fun _=>HSA.out _ _ _ _ _ HM4.out HP4.out) ?_
   clear hK K hr
   (try simp only [aP])
   have HPz:=HP4
   refine tkF 16 42 ?vq21 rfl ?hyq21 (fun _=>HSA.out _ _ _ _ _ HM4.out HPz.out) ?restq21
   case hyq21=>intro w q;clear q;go_simp;(try with_reducible rfl)
   (try simp only [aP])
   refine tkF 17 43 ?vq22 rfl ?hyq22 (fun _=>HSA.out _ _ _ _ _ HM4.out HPz.out) ?restq22
   case hyq22=>intro w q;clear q;go_simp;(try with_reducible rfl)
   (try simp only [aP])
   have HC:=Hd (HM4.out.s.cells)
   obtain ⟨c0,c1,c2,c3,c4,c5,c6,c7,c8,c9,c10,cz⟩:=HC.out
   have z8:=cz 8
   have HF:=Hd (HM4.out.fin)
   have HG:=Hd ((HK4.out.setG 8 (.slice v3a v3n v3c)).setG 9 (.slice v4a v4n v4c))
   have z9:=HF.out.2.1
   have c9':=HF.out.2.2
   refine yB (rs:=[18]) (by kernel_rfl) (by simp) ?_
   refine zJ.cons (o:=⟨none,_,_,_,_,_⟩) rfl (fun K hK=>?_) zJ.nil
   go_simp
   refine hK.out _ _ (fun h=>Bool.noConfusion (h.symm.trans (by kernel_rfl:_=false))) ?_
   clear hK K c0 c1 c2 c3 c4 c5 c6 c7 c8 c9 c10 cz
   (try simp only [aP])
   refine tkF 19 44 ?vq23 rfl ?hyq23 (fun h=>Bool.noConfusion (h.symm.trans (by kernel_rfl:_=false))) ?restq23
   case hyq23=>intro w q;clear q;go_simp;(try with_reducible rfl)
   (try simp only [aP])
   refine tkF 20 45 ?vq24 rfl ?hyq24 (fun h=>Bool.noConfusion (h.symm.trans (by kernel_rfl:_=false))) ?restq24
   case hyq24=>intro w q;clear q;go_simp;(try with_reducible rfl)
   (try simp only [aP])
   refine yB (rs:=[21]) (by kernel_rfl) (by simp) ?_
   refine zJ.cons (o:=⟨none,_,_,_,_,_⟩) rfl (fun K hK=>?_) zJ.nil
   go_simp
   refine hK.out _ _ (fun h=>Bool.noConfusion (h.symm.trans (by kernel_rfl:_=false))) ?_
   clear hK K z9 c9' z8
   (try simp only [aP])
   refine jD (by kernel_rfl) ?_ _
   have HX:=Hd (HYES.out _ _ _ HF.out.1 HG.out)
   go_wp2_with fail
   go_end0
   exact HX.out _
end Go.Proofs.YtfalelkfhandfaaGreatDoor
