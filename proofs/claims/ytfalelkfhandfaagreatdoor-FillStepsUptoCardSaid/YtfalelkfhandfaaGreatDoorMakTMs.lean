/- Layer 20: the maker's top, walked (printed by tools/genmakt.py). -/
import Derived.Test.YtfalelkfhandfaaGreatDoorPackMs
import Derived.Test.YtfalelkfhandfaaGreatDoorMakPMs
import Derived.Test.YtfalelkfhandfaaGreatDoorTermMs
import Derived.Test.YtfalelkfhandfaaGreatDoorTreesFMs
import Derived.Test.YtfalelkfhandfaaGreatDoorCheckBMs
import Derived.Test.YtfalelkfhandfaaGreatDoorCopPMs
namespace Go.Proofs.YtfalelkfhandfaaGreatDoor
set_option maxRecDepth 100000
set_option maxHeartbeats 32000000
set_option linter.all false
attribute [local irreducible] Calls
attribute [local irreducible] wpStill
open Go.RowKit

theorem zSy:Tryz.prog.underlying 27=some (.slice (Tryz.prog.elem 27)):=by kernel_rfl
theorem zLj (w:World):(sizeOf (Tryz.prog.elem 27)).run Tryz.prog w=.ok 1 w:=by
 have h:(Tryz.prog.info? (Tryz.prog.elem 27)).map (·.size)=some 1:=by kernel_rfl
 cases hq:Tryz.prog.info? (Tryz.prog.elem 27) with
 | none=>rw [hq] at h;cases h
 | some i =>
  rw [hq] at h
  simp only [Option.map_some,Option.some.injEq] at h
  simp [sizeOf,typeInfo,hq,h]
theorem zNi (g off n c lo:Nat) (hlo:lo≤n):∃ p:Option Addr,(∀ w,(Instr.slice 27 (.slice (some ⟨g,off,none⟩) n c) (some (.int .i64 (lo:Int))) none none).run Tryz.prog w=.ok (.slice p (n-lo) (c-lo)) w)∧(lo<c→p=some ⟨g,off+lo*1,none⟩):=by
 refine ⟨if c=lo then some ⟨g,off,none⟩ else some ⟨g,off+lo*1,none⟩,fun w=>?_,fun h=>if_neg (by omega)⟩
 rw [run_slice_l w _ _ _ _ zSy .i64 (lo:Int) (by omega) (by omega),zLj]
 simp only [Result.andThen,sliced,Int.toNat_natCast]
 by_cases h:c=lo
 ·rw [if_pos h,if_pos h]
 ·rw [if_neg h,if_neg h];simp [Addr.add]
theorem Row.tail {W:World} {b off n c sz:Nat} {p:Option Addr} {cs ds:List Value} (h:Row W (.slice (some ⟨b,off,none⟩) (n+1) c) (n+1) sz (cs++ds)) (hc:cs.length=sz) (hp:1<c→p=some ⟨b,off+1*sz,none⟩) (hn:p=none→c-1=0):Row W (.slice p n (c-1)) n sz ds:=by
 obtain ⟨h1,a,cap,hv,hcap,hz,h2⟩:=h
 simp only [Value.slice.injEq] at hv
 obtain ⟨rfl,_,rfl⟩:=hv
 obtain ⟨b',off',e,hlt,hcell⟩:=h2 (by omega)
 simp only [Option.some.injEq,Addr.mk.injEq,and_true] at e
 obtain ⟨rfl,rfl⟩:=e
 rw [List.length_append,hc,Nat.add_mul] at h1
 refine ⟨by omega,p,c-1,rfl,by omega,hn,fun hpos=>⟨b,off+sz,by rw [hp (by omega),Nat.one_mul],hlt,fun i hi=>?_⟩⟩
 rw [Nat.add_assoc,hcell _ (by rw [Nat.add_mul];omega),List.getElem?_append_right (by omega),hc,show sz+i-sz=i by omega]
theorem Row.setG {W:World} {v:Value} {n sz g:Nat} {cs:List Value} (h:Row W v n sz cs) (hne:0<n→∀ b off m c,v=.slice (some ⟨b,off,none⟩) m c→b≠g) (j:Nat) (u:Value):Row (W.setCell ⟨g,j,none⟩ u) v n sz cs:=by
 obtain ⟨h1,a,cap,e,hc,hz,h2⟩:=h
 refine ⟨h1,a,cap,e,hc,hz,fun hn=>?_⟩
 obtain ⟨b,off,rfl,hlt,hcell⟩:=h2 hn
 exact ⟨b,off,rfl,by simpa using hlt,fun i hi=>by rw [vX (hne hn _ _ _ _ e)];exact hcell i hi⟩
structure Above (B:Nat) (W W':World):Prop where
 size:W.heap.size≤W'.heap.size
 up:∀ b,B≤b→b<W.heap.size→W'.heap[b]?=W.heap[b]?
theorem Above.refl (B:Nat) (W:World):Above B W W:=⟨Nat.le_refl _,fun _ _ _=>rfl⟩
theorem Above.trans {B:Nat} {a b c:World} (h:Above B a b) (k:Above B b c):Above B a c:=⟨Nat.le_trans h.size k.size,fun i h1 h2=>(k.up i h1 (Nat.lt_of_lt_of_le h2 h.size)).trans (h.up i h1 h2)⟩
theorem Above.of_below {B:Nat} {W W':World} (h:Below W.heap.size W W'):Above B W W':=⟨h.size,fun b _ h2=>h.block b h2⟩
theorem Above.setCell {B:Nat} {a W:World} (h:Above B a W) {b:Nat} (hb:b<B) (j:Nat) (u:Value):Above B a (W.setCell ⟨b,j,none⟩ u) :=
 ⟨by have:=h.size;simpa using this,fun i h1 h2=>by rw [heap_setCell_other _ _ _ _ (show i≠b by omega)];exact h.up i h1 h2⟩
theorem Above.mono {B B':Nat} {W W':World} (h:Above B W W') (hB:B≤B'):Above B' W W':=⟨h.size,fun b h1 h2=>h.up b (Nat.le_trans hB h1) h2⟩
theorem Row.above {B:Nat} {W W':World} {v:Value} {n sz:Nat} {cs:List Value} (h:Row W v n sz cs) (hb:0<n→∀ b off m c,v=.slice (some ⟨b,off,none⟩) m c→B≤b) (ha:Above B W W'):Row W' v n sz cs:=by
 obtain ⟨h1,a,cap,e,hc,hz,h2⟩:=h
 refine ⟨h1,a,cap,e,hc,hz,fun hn=>?_⟩
 obtain ⟨b,off,rfl,hlt,hcell⟩:=h2 hn
 refine ⟨b,off,rfl,Nat.lt_of_lt_of_le hlt ha.size,fun i hi=>?_⟩
 rw [← hcell i hi]
 simp only [World.cell?,ha.up b (hb hn _ _ _ _ e) hlt]
def outT (E:MkE) (out:List PN):List PN:=if E.r.goal=3 then out.drop 1 else out
@[irreducible] def topPost (w0:World) (E:MkE) (out:List PN) (lg:Bool) (e:Ending) (w':World):Prop :=
 ∃ ov fv long,∃ k:Int,e=.returned (.int .i64 k)∧Below w0.heap.size w0 w'∧mkB E ov fv long w'∧(lg=true→long=true) ∧
  (lg=false→long=decide ((131072:Int)<((outT E out).length:Int))∧k=(if E.r.goal=3 then (match out with | x::_=>x.1.2.1 | []=>0) else 1)∧∀ W',Above w0.heap.size w' W'→zD W' ov ((outT E out).map (·.1))∧zI W' fv .i64 ((outT E out).map (·.2)))
theorem yBc (w0:World) (E:MkE) (out:List PN) (lg:Bool) (ov fv:Value) (W:World) (hi:MkIn w0 E out lg ov fv W) (hn:out.length≤131073) (h0:lg=false→E.r.goal=3→0<out.length) :
  Calls Tryz.prog 42 #[.pointer (some ⟨E.g,0,none⟩)] W (topPost w0 E out lg):=by
 obtain ⟨c0,c1,c2,c3,c4,c5,c6,c7,c8,c9,c10,cz⟩:=hi.s.cells
 clear c0 c2 c3 c4 c5 c6 c7
 have z10:=cz 10
 have HI:=Hd hi
 cases lg with
 | true =>
  have HX:Hid (topPost w0 E out true (.returned (.int .i64 0)) W):=Hd (by
   unfold topPost
   exact ⟨ov,fv,true,0,rfl,HI.out.b,HI.out.s,fun _=>rfl,fun h=>by cases h⟩)
  generalize topPost w0 E out true=Q at *
  clear hi h0 c1 c8 c9 cz z10
  go_enter Tryz.func42,Tryz.ntmps42
  go_wp2_with fail
  exact HX.out
 | false =>
 by_cases hg:E.r.goal=3
 case neg =>
  have g1:((E.r.goal:Int) != 3)=true:=by rw [bne_iff_ne];omega
  have g2:((E.r.goal:Int) == 3)=false:=by rw [beq_eq_false_iff_ne];omega
  obtain ⟨oa,oc,rfl,hoc⟩:=Row.shape (Row.of_owns hi.o)
  have HX:Hid (topPost w0 E out false (.returned (.int .i64 1)) (W.setCell ⟨E.g,10,none⟩ (.bool (decide ((131072:Int)<(out.length:Int)))))):=Hd (by
   have h:=(HI.out.long (decide ((131072:Int)<(out.length:Int)))).1
   have e:outT E out=out:=by unfold outT;rw [if_neg hg]
   unfold topPost
   refine ⟨_,_,_,1,rfl,h.b,h.s,fun h=>(by cases h),fun _=>⟨by rw [e],by rw [if_neg hg],fun W' ha=>?_⟩⟩
   rw [e]
   have hgB:=h.gB
   have hg0:=h.g0
   refine ⟨?_,?_⟩
   ·unfold zD
    rw [List.length_map]
    exact Row.above (Row.of_owns h.o) (fun _ b off m c e=>by have:=(h.o.lt b (by rw [e];rfl)).1;omega) ha
   ·unfold zI
    rw [List.length_map]
    exact Row.above (Row.of_owns h.f) (fun _ b off m c e=>by have:=(h.f.lt b (by rw [e];rfl)).1;omega) ha)
  generalize topPost w0 E out false=Q at *
  clear hi h0 hg c9 cz
  go_enter Tryz.func42,Tryz.ntmps42
  go_wp2_with fail
  exact HX.out
 have hpos:=h0 rfl hg
 obtain ⟨x,M,rfl⟩:∃ x M,out=x::M:=by
  cases out with
  | nil=>simp at hpos
  | cons x M=>exact ⟨x,M,rfl⟩
 have e:outT E (x::M)=M:=by unfold outT;rw [if_pos hg];rfl
 have ho:=hi.o
 have hf:=hi.f
 obtain ⟨oa,on,oc,hov⟩:=zL ho
 obtain ⟨fa,fn,fc,hfv⟩:=zL hf
 subst hov hfv
 obtain rfl:on=(x::M).length:=by
  obtain ⟨_,_,_,e,_⟩:=Row.of_owns ho
  simp only [Value.slice.injEq] at e
  exact e.2.1
 obtain rfl:fn=(x::M).length:=by
  obtain ⟨_,_,_,e,_⟩:=Row.of_owns hf
  simp only [Value.slice.injEq] at e
  exact e.2.1
 obtain ⟨gO,rfl⟩:=xI ho (by simp)
 obtain ⟨gF,rfl⟩:=xI hf (by simp)
 have hkc:W.cell? ⟨gO,1,none⟩=some (.int .i64 x.1.2.1):=by
  rw [ho.cellAt 1 (by simp;omega)]
  rfl
 rw [List.length_cons] at ho hf hn
 have HRO:Hid (Row W (.slice (some ⟨gO,0,none⟩) (M.length+1) oc) (M.length+1) 3 (partV x.1++zV (M.map (·.1)))):=Hd (Row.of_owns ho)
 have HRF:Hid (Row W (.slice (some ⟨gF,0,none⟩) (M.length+1) fc) (M.length+1) 1 ([.int .i64 x.2]++intsV (M.map (·.2)))):=Hd (Row.of_owns hf)
 obtain ⟨po,hso,hpo⟩:=zPh gO 0 (M.length+1) oc 1 (by omega)
 obtain ⟨pf,hsf,hpf⟩:=zNi gF 0 (M.length+1) fc 1 (by omega)
 have hso:∀ w,(Instr.slice 23 (.slice (some ⟨gO,0,none⟩) (M.length+1) oc) (some (.int .i64 1)) none none).run Tryz.prog w=.ok (.slice po M.length (oc-1)) w:=fun w=>by
  have:=hso w
  rw [Nat.add_sub_cancel] at this
  exact this
 have hsf:∀ w,(Instr.slice 27 (.slice (some ⟨gF,0,none⟩) (M.length+1) fc) (some (.int .i64 1)) none none).run Tryz.prog w=.ok (.slice pf M.length (fc-1)) w:=fun w=>by
  have:=hsf w
  rw [Nat.add_sub_cancel] at this
  exact this
 have hoc:M.length+1≤oc:=by
  obtain ⟨_,_,_,e,h,_⟩:=HRO.out
  simp only [Value.slice.injEq] at e
  omega
 have hfc:M.length+1≤fc:=by
  obtain ⟨_,_,_,e,h,_⟩:=HRF.out
  simp only [Value.slice.injEq] at e
  omega
 have hgO:gO≠E.g:=fun h=>by have:=(ho.lt gO rfl).1;have:=hi.gB;omega
 have hgF:gF≠E.g:=fun h=>by have:=(hf.lt gF rfl).1;have:=hi.gB;omega
 have HTO:Hid (Row W (.slice po M.length (oc-1)) M.length 3 (zV (M.map (·.1)))):=Hd (Row.tail HRO.out rfl hpo (fun h=>by
  rcases Nat.lt_or_ge 1 oc with c | c
  ·rw [hpo c] at h;cases h
  ·omega))
 have HTF:Hid (Row W (.slice pf M.length (fc-1)) M.length 1 (intsV (M.map (·.2)))):=Hd (Row.tail HRF.out rfl hpf (fun h=>by
  rcases Nat.lt_or_ge 1 fc with c | c
  ·rw [hpf c] at h;cases h
  ·omega))
 have HNO:Hid (0<M.length→∀ b off m c,Value.slice po M.length (oc-1)=.slice (some ⟨b,off,none⟩) m c→b≠E.g):=Hd fun h b off m c e=>by
  rw [hpo (by omega)] at e
  simp only [Value.slice.injEq,Option.some.injEq,Addr.mk.injEq,and_true] at e
  rw [← e.1.1];exact hgO
 have HNF:Hid (0<M.length→∀ b off m c,Value.slice pf M.length (fc-1)=.slice (some ⟨b,off,none⟩) m c→b≠E.g):=Hd fun h b off m c e=>by
  rw [hpf (by omega)] at e
  simp only [Value.slice.injEq,Option.some.injEq,Addr.mk.injEq,and_true] at e
  rw [← e.1.1];exact hgF
 have hid:=hi.below (Below.refl _ _).drew
 have HX:Hid (topPost w0 E (x::M) false (.returned (.int .i64 x.1.2.1)) (((W.drew.setCell ⟨E.g,8,none⟩ (.slice po M.length (oc-1))).setCell ⟨E.g,9,none⟩ (.slice pf M.length (fc-1))).setCell ⟨E.g,10,none⟩ (.bool (decide ((131072:Int)<(M.length:Int)))))):=Hd (by
  have s1:=hid.s.set.1 (.slice po M.length (oc-1))
  have s2:=s1.set.2.1 (.slice pf M.length (fc-1))
  have s3:=s2.set.2.2 (decide ((131072:Int)<(M.length:Int)))
  have b1:=hid.b.setCell (p:=⟨E.g,8,none⟩) hi.g0 (.slice po M.length (oc-1))
  have b2:=b1.setCell (p:=⟨E.g,9,none⟩) hi.g0 (.slice pf M.length (fc-1))
  have b3:=b2.setCell (p:=⟨E.g,10,none⟩) hi.g0 (.bool (decide ((131072:Int)<(M.length:Int))))
  unfold topPost
  refine ⟨_,_,_,x.1.2.1,rfl,b3,s3,fun h=>(by cases h),fun _=>⟨by rw [e],by rw [if_pos hg],fun W' ha=>?_⟩⟩
  have hgB:=hi.gB
  have hg0:=hi.g0
  have l1:=(ho.lt gO rfl).1
  have l2:=(hf.lt gF rfl).1
  rw [e]
  refine ⟨?_,?_⟩
  ·unfold zD
   rw [List.length_map]
   exact Row.above ((((HTO.out.below (Below.refl _ _).drew).setG HNO.out _ _).setG HNO.out _ _).setG HNO.out _ _) (fun h b off m c e=>by
    rw [hpo (by omega)] at e
    simp only [Value.slice.injEq,Option.some.injEq,Addr.mk.injEq,and_true] at e
    omega) ha
  ·unfold zI
   rw [List.length_map]
   exact Row.above ((((HTF.out.below (Below.refl _ _).drew).setG HNF.out _ _).setG HNF.out _ _).setG HNF.out _ _) (fun h b off m c e=>by
    rw [hpf (by omega)] at e
    simp only [Value.slice.injEq,Option.some.injEq,Addr.mk.injEq,and_true] at e
    omega) ha)
 have z8:=cz 8
 have HM1:Hid (mkB E (.slice po M.length (oc-1)) (.slice (some ⟨gF,0,none⟩) (M.length+1) fc) false (W.drew.setCell ⟨E.g,8,none⟩ (.slice po M.length (oc-1)))):=Hd (hid.s.set.1 _)
 have HM2:Hid (mkB E (.slice po M.length (oc-1)) (.slice pf M.length (fc-1)) false ((W.drew.setCell ⟨E.g,8,none⟩ (.slice po M.length (oc-1))).setCell ⟨E.g,9,none⟩ (.slice pf M.length (fc-1)))):=Hd (HM1.out.set.2.1 _)
 rw [List.length_cons] at c8 c9
 have hg3:(E.r.goal:Int)=3:=by omega
 have hml:M.length≤131073:=by omega
 have h1n:(1:Int)≤((M.length:Int)+1):=by omega
 generalize topPost w0 E (x::M) false=Q at *
 clear hi h0 ho hf e hpo hpf HI hpos
 generalize x.1.2.1=kx at *
 go_enter Tryz.func42,Tryz.ntmps42
 go_upto_region 7 with (fail)
 have hS0:W.drew.cell? ⟨E.g,8,none⟩=some (.slice (some ⟨gO,0,none⟩) (M.length+1) oc)∧W.drew.cell? ⟨E.g,9,none⟩=some (.slice (some ⟨gF,0,none⟩) (M.length+1) fc):=⟨c8,c9⟩
 have z8:W.drew.frozen? ⟨E.g,8,none⟩=false:=z8
 clear c8 c9 c10 c1 z10 cz hkc hid
 refine kS (S:=fun W'=>W'.cell? ⟨E.g,8,none⟩=some (.slice (some ⟨gO,0,none⟩) (M.length+1) oc)∧W'.cell? ⟨E.g,9,none⟩=some (.slice (some ⟨gF,0,none⟩) (M.length+1) fc)) [14] (by kernel_rfl) ?_
 generalize W.drew=wd at *
 refine tkF 0 30 ?vq1 rfl ?hyq1 (fun _=>hS0) ?restq1
 case hyq1=>intro w q;clear q;go_simp;(try with_reducible rfl)
 (try simp only [aP])
 refine tkF 1 31 ?vq2 rfl ?hyq2 (fun _=>hS0) ?restq2
 case hyq2=>intro w q;clear q;go_simp;(try with_reducible rfl)
 (try simp only [aP])
 refine tkF 2 32 ?vq3 rfl ?hyq3 (fun _=>hS0) ?restq3
 case hyq3=>intro w q;clear q;go_simp;(try with_reducible rfl)
 (try simp only [aP])
 refine tkF 3 33 ?vq4 rfl ?hyq4 (fun _=>hS0) ?restq4
 case hyq4=>intro w q;clear q;go_simp;(try with_reducible rfl)
 (try simp only [aP])
 refine tkF 4 34 ?vq5 rfl ?hyq5 (fun _=>hS0) ?restq5
 case hyq5=>intro w q;clear q;go_simp;(try with_reducible rfl)
 (try simp only [aP])
 refine tkU [14] 5 35 ?vq6 rfl ?hyq6 hS0 ?restq6
 case hyq6=>intro w q;(try dsimp only at q);go_simp;(try with_reducible rfl)
 (try simp only [aP])
 refine tkF 6 36 ?vq7 rfl ?hyq7 (fun _=>hS0) ?restq7
 case hyq7=>intro w q;clear q;go_simp;(try with_reducible rfl)
 (try simp only [aP])
 refine tkF 7 37 ?vq8 rfl ?hyq8 (fun _=>hS0) ?restq8
 case hyq8=>intro w q;clear q;go_simp;(try with_reducible rfl)
 (try simp only [aP])
 refine tkF 8 38 ?vq9 rfl ?hyq9 (fun _=>hS0) ?restq9
 case hyq9=>intro w q;clear q;go_simp;(try with_reducible rfl)
 (try simp only [aP])
 refine tkF 9 39 ?vq10 rfl ?hyq10 (fun _=>hS0) ?restq10
 case hyq10=>intro w q;clear q;go_simp;(try with_reducible rfl)
 (try simp only [aP])
 refine tkU [14] 10 40 ?vq11 rfl ?hyq11 hS0 ?restq11
 case hyq11=>intro w q;(try dsimp only at q);go_simp;(try with_reducible rfl)
 (try simp only [aP])
 refine tkF 11 41 ?vq12 rfl ?hyq12 (fun _=>hS0) ?restq12
 case hyq12=>intro w q;clear q;go_simp;(try with_reducible rfl)
 (try simp only [aP])
 refine tkF 12 42 ?vq13 rfl ?hyq13 (fun _=>hS0) ?restq13
 case hyq13=>intro w q;clear q;go_simp;(try with_reducible rfl)
 (try simp only [aP])
 refine tkF 13 43 ?vq14 rfl ?hyq14 (fun _=>hS0) ?restq14
 case hyq14=>intro w q;clear q;go_simp;(try with_reducible rfl)
 (try simp only [aP])
 have c8:=hS0.1
 refine yB (rs:=[14]) (by kernel_rfl) (by simp) ?_
 refine zJ.cons (o:=⟨none,_,_,_,_,_⟩) rfl (fun K hK=>?_) zJ.nil
 go_simp
 refine hK.out _ _ (fun h=>Bool.noConfusion (h.symm.trans (by kernel_rfl:_=false))) ?_
 clear hK K c8 z8
 (try simp only [aP])
 refine tkF 15 44 ?vq15 rfl ?hyq15 (fun h=>Bool.noConfusion (h.symm.trans (by kernel_rfl:_=false))) ?restq15
 case hyq15=>intro w q;clear q;go_simp;(try with_reducible rfl)
 (try simp only [aP])
 refine tkF 16 45 ?vq16 rfl ?hyq16 (fun h=>Bool.noConfusion (h.symm.trans (by kernel_rfl:_=false))) ?restq16
 case hyq16=>intro w q;clear q;go_simp;(try with_reducible rfl)
 (try simp only [aP])
 have c9:=HM1.out.cells.2.2.2.2.2.2.2.2.2.1
 have z9:=HM1.out.cells.2.2.2.2.2.2.2.2.2.2.2 9
 refine yB (rs:=[17]) (by kernel_rfl) (by simp) ?_
 refine zJ.cons (o:=⟨none,_,_,_,_,_⟩) rfl (fun K hK=>?_) zJ.nil
 go_simp
 refine hK.out _ _ (fun h=>Bool.noConfusion (h.symm.trans (by kernel_rfl:_=false))) ?_
 clear hK K c9 z9
 (try simp only [aP])
 refine jD (by kernel_rfl) ?_ _
 generalize (wd.setCell ⟨E.g,8,none⟩ (.slice po M.length (oc-1))).setCell ⟨E.g,9,none⟩ (.slice pf M.length (fc-1))=W7 at *
 obtain ⟨c0,c1,c2,c3,c4,c5,c6,c7,c8,c9,c10,cz⟩:=HM2.out.cells
 have z10:=cz 10
 clear c0 c2 c3 c4 c5 c6 c7 c9 cz
 go_wp2_with fail
 exact HX.out
end Go.Proofs.YtfalelkfhandfaaGreatDoor
namespace Go.Proofs.YtfalelkfhandfaaGreatDoor
set_option linter.all false

section
variable {l:List Prt}
def lsAt (l:List Prt) (i k j:Nat):Bool:=if upN l j<(i:Int)∨(upN l j=(i:Int)∧j<k) then looseAt l j else false
def lsE (l:List Prt) (i k:Nat):List Bool:=(List.range l.length).map (lsAt l i k)
theorem zQz {i k j:Nat} (h:j<(lsE l i k).length):(lsE l i k)[j]=lsAt l i k j:=by simp [lsE]
theorem yAc {us:List Nat} (hl:zG l=some us) {i k:Nat} (hi:i<l.length) (h1:i<k) (h2:k<zC l i) (hu:upN l k=(i:Int)):(lsE l i k).set k (looseAt l k)=lsE l i (zC l k):=by
 have hg:=zN hl hi
 have hk:=zN hl (show k<l.length by omega)
 apply List.ext_getElem (by simp [lsE])
 intro j g1 g2
 simp [lsE] at g1
 rw [List.getElem_set,zQz,zQz]
 unfold lsAt
 by_cases e:k=j
 ·subst e
  rw [if_pos rfl,if_pos (Or.inr ⟨hu,hk.1⟩)]
 ·rw [if_neg e]
  congr 1
  apply propext
  constructor
  ·rintro (g | ⟨g,g3⟩)
   ·exact Or.inl g
   ·exact Or.inr ⟨g,by omega⟩
  ·rintro (g | ⟨g,g3⟩)
   ·exact Or.inl g
   ·refine Or.inr ⟨g,?_⟩
    apply Classical.byContradiction
    intro hc
    unfold upN at g
    have:=(zEe l g).2.2 k (by omega) (by omega)
    omega
theorem zXm {us:List Nat} (hl:zG l=some us) {i k:Nat} (hi:i<l.length) (h2:zC l i≤k):lsE l i k=lsE l (i+1) (i+1+1):=by
 unfold lsE
 apply List.map_congr_left
 intro j hj
 unfold lsAt
 congr 1
 apply propext
 have key:∀ a:Nat,upN l j=(a:Int)→a<j∧j<zC l a:=fun a g=>by
  unfold upN at g
  have:=zEe l g
  exact ⟨this.1,this.2.1⟩
 constructor
 ·rintro (g | ⟨g,_⟩)
  ·exact Or.inl (by push_cast;omega)
  ·exact Or.inl (by push_cast;omega)
 ·rintro (g | ⟨g,g3⟩)
  ·push_cast at g
   by_cases e:upN l j=(i:Int)
   ·exact Or.inr ⟨e,by have:=(key i e).2;omega⟩
   ·exact Or.inl (by omega)
  ·have:=key (i+1) g
   omega
theorem zUd:lsE l 0 1=List.replicate l.length false:=by
 apply List.ext_getElem (by simp [lsE])
 intro j g1 g2
 rw [zQz,List.getElem_replicate]
 unfold lsAt
 split
 ·rename_i h
  unfold looseAt
  cases hu:upN l j with
  | ofNat p =>
   exfalso
   rw [hu] at h
   have h3:=zDz l j
   rw [hu] at h3
   rcases h with h | h
   ·have h2:(p:Int)<((0:Nat):Int):=h
    omega
   ·have h2:(p:Int)=((0:Nat):Int):=h.1
    have h4:(p:Int)<(j:Int):=h3
    omega
  | negSucc p=>rfl
 ·rfl
theorem yAd {k:Nat}:lsE l l.length k=(List.range l.length).map (looseAt l):=by
 unfold lsE
 apply List.map_congr_left
 intro j hj
 rw [List.mem_range] at hj
 unfold lsAt
 rw [if_pos]
 have:=zDz l j
 exact Or.inl (by omega)
theorem yBi {us:List Nat} (hl:zG l=some us) {i q:Nat} {kp:Nat→Nat} (hi:i<l.length) (KS:KidSeq l i q kp) {c:Nat} (hc:c<q):upN l (kp c)=(i:Int)∧i<kp c∧kp c<zC l i∧looseAt l (kp c)=looseZ (zR l i) c (zR l (kp c)):=by
 have hlt:kp c<zC l i:=by
  have h1:=KS.up c hc
  have h2:=KS.le (c+1) hc
  omega
 have hadv:∀ n,n≤c→advT l n (i+1) (zC l i)=some (kp n):=by
  intro n
  induction n with
  | zero=>intro _;rw [advT,KS.z]
  | succ n ih =>
   intro hn
   have h1:=KS.up n (by omega)
   have h2:=KS.le (n+1) (by omega)
   rw [jG l n 1,ih (by omega),Option.bind_some,advT,if_pos (by omega),advT,KS.nx n (by omega)]
 have hk:∀ n,n≤c→zQ l n (i+1)=kp n:=fun n hn=>fQ (hadv n hn)
 have hkl:∀ m,m≤c→zQ l m (i+1)<zC l i:=fun m hm=>by
  rw [hk m hm]
  have h1:=KS.up m (by omega)
  have h2:=KS.le (m+1) (by omega)
  omega
 have hu:=zSj hl hi hkl
 have hg:=zMi hl hi c hkl
 rw [hk c (Nat.le_refl _)] at hu hg
 exact ⟨hu,hg.1,hlt,zJm hl hi (hadv c (Nat.le_refl _)) hlt⟩
end
theorem zKl (l:List Prt) (fr:List Int) (i:Nat):gSeg l fr 0 (i+1)=gSeg l fr 0 i++gOne l fr i:=by
 rw [zCy l fr (Nat.zero_le i) (Nat.le_succ i),zGr]
theorem zOu (l:List Prt) (fr:List Int):∀ i,(gSeg l fr 0 i).length≤2*i
 | 0=>by rw [zGs];simp
 | i+1=>by
  rw [zKl,List.length_append]
  have:=zOu l fr i
  have h2:(gOne l fr i).length≤2:=by unfold gOne;split <;> simp
  omega
end Go.Proofs.YtfalelkfhandfaaGreatDoor
namespace Go.Proofs.YtfalelkfhandfaaGreatDoor
set_option maxRecDepth 100000
set_option maxHeartbeats 32000000
set_option linter.all false
attribute [local irreducible] Calls
attribute [local irreducible] wpStill
open Go.RowKit

@[irreducible] def eRel (w0:World) (E:CpE) (i q n:Nat) (W1:World) (ov nv:Value) (X:List Prt) (Y:List Int) (iv:Value) (wr:World):Prop :=
 ∃ (nth k m:Nat) (out':List Prt) (ns':List Int) (ov' nv':Value),iv=.int .i64 (nth:Int)∧nth≤q∧advT E.l nth (i+1) (zC E.l i)=some k∧CpIn w0 E out' ns' k ov' nv' wr∧KpC E.g ov nv ov' nv' W1 wr ∧
  out'++(gKids E.l E.fr m (zR E.l i) nth k (zC E.l i)).map (·.1)=X∧ns'++(gKids E.l E.fr m (zR E.l i) nth k (zC E.l i)).map (·.2)=Y∧2*(zC E.l i-k)+1≤m∧m≤n∧ns'.length=out'.length
theorem zVk {l:List Prt} {us:List Nat} (hl:zG l=some us) {i q nth k:Nat} (hi:i<l.length) (hq:advT l q (i+1) (zC l i)=some (zC l i)) (hk:advT l nth (i+1) (zC l i)=some k) (hn:nth<q):k<zC l i∧advT l (nth+1) (i+1) (zC l i)=some (zC l k)∧zC l k≤zC l i:=by
 have hg:=zN hl hi
 obtain ⟨r1,r2,r3⟩:=zBh hl hg.2 hq hk
 have hne:k≠zC l i:=by
  intro e
  subst e
  obtain ⟨J,hJ⟩:∃ J,q-nth=J+1:=⟨q-nth-1,by omega⟩
  rw [hJ] at r3
  rw [advT,if_neg (by omega)] at r3
  cases r3
 obtain ⟨hlt,J,_,hJ⟩:=jH r3 hne
 have h5:=jF hl _ _ _ _ hg.2 hJ
 exact ⟨hlt,by rw [jG,hk,Option.bind_some,advT,if_pos hlt,advT],by omega⟩
theorem zMz {l:List Prt} {us:List Nat} (hl:zG l=some us) {stop:Nat} (hs:stop≤l.length):∀ n k b,advT l n k stop=some b→k+n≤b
 | 0,k,b,h=>by rw [advT] at h;cases h;omega
 | n+1,k,b,h=>by
  rw [advT] at h
  split at h
  ·rename_i hlt
   have h1:=zMz hl hs n _ b h
   have h2:=(zN hl (show k<l.length by omega)).1
   omega
  ·cases h
theorem zZi (w0:World) (E:CpE) (F:CpF w0 E) (n:Nat) (ihP:∀ m,m<n→PutC w0 E m) (W:World) (out:List Prt) (ns:List Int) (i:Nat) (ov nv:Value) (hi:CpIn w0 E out ns (i+1) ov nv W) (hil:i<E.l.length) (hfu:2*(zC E.l i-(i+1))+1≤n) (hlen:out.length+(gKids E.l E.fr n (zR E.l i) 0 (i+1) (zC E.l i)).length≤1000000000) (hns:ns.length=out.length) :
  Calls Tryz.prog 64 #[.pointer (some ⟨E.g,0,none⟩),partA (zR E.l i),.func (.func 43) #[.pointer (some ⟨E.g,0,none⟩)] #[]] W (cpPost w0 E out ns ov nv (gKids E.l E.fr n (zR E.l i) 0 (i+1) (zC E.l i)) (zC E.l i) W):=by
 obtain ⟨q,hq1,hq2,hq3,hq4⟩:=zEa (zK F.w) hil
 have hgg:=zN (zK F.w) hil
 have hpt:zR E.l i=E.l[i]:=by unfold zR;simp [List.getD_eq_getElem?_getD,hil]
 have hps:(zR E.l i).2.2.size≤1048576:=by rw [hpt];exact (F.s.2 _ (List.getElem_mem hil)).2
 have hq9:q≤1048576:=by
  have h1:=F.s.1
  have h2:=zMz (zK F.w) hgg.2 _ _ _ hq2
  omega
 have hgl:=zP hi.s
 have HBX:=Hd ((Below.refl W.heap.size W).alloc (Nat.le_refl _) (.cells #[.int .u8 ((zR E.l i).1:Int),.int .i64 (zR E.l i).2.1,.string (zR E.l i).2.2] 38))
 have HP1:=Hd (PK.alloc_new W (zR E.l i))
 have HC1:=Hd (hi.below HBX.out)
 have HK1:=Hd (KpC.of_below (g:=E.g) (ov:=ov) (nv:=nv) HBX.out)
 have HTG:Hid (W.heap.size≠E.g):=Hd (by omega)
 have HTO:Hid (ov.ownBlock≠some W.heap.size):=Hd (fun e=>by have:=(hi.o.lt _ e).2;omega)
 have HTN:Hid (nv.ownBlock≠some W.heap.size):=Hd (fun e=>by have:=(hi.f.lt _ e).2;omega)
 have hk2:(zR E.l i).2.1=(q:Int):=by rw [hpt];exact hq1
 have HF:=Hd F
 have HPP:=Hd (rfl:zR E.l i=zR E.l i)
 obtain ⟨X,hX⟩:∃ X,out++(gKids E.l E.fr n (zR E.l i) 0 (i+1) (zC E.l i)).map (·.1)=X:=⟨_,rfl⟩
 obtain ⟨Y,hY⟩:∃ Y,ns++(gKids E.l E.fr n (zR E.l i) 0 (i+1) (zC E.l i)).map (·.2)=Y:=⟨_,rfl⟩
 have hXl:X.length≤1000000000:=by rw [← hX];simp;omega
 have HQ:Hid (∀ W1 w' ov' nv' v,KpC E.g ov nv ov nv W W1→CpIn w0 E X Y (zC E.l i) ov' nv' w'→KpC E.g ov nv ov' nv' W1 w'→cpPost w0 E out ns ov nv (gKids E.l E.fr n (zR E.l i) 0 (i+1) (zC E.l i)) (zC E.l i) W (.returned v) w'):=Hd fun W1 w' ov' nv' v h1 hc hk=>by
  unfold cpPost
  exact ⟨ov',nv',v,rfl,by rw [hX,hY];exact hc,h1.trans hk⟩
 have HR0:Hid (∀ W1,CpIn w0 E out ns (i+1) ov nv W1→eRel w0 E i q n W1 ov nv X Y (.int .i64 0) W1):=Hd fun W1 hc=>by
  unfold eRel
  exact ⟨0,i+1,n,out,ns,ov,nv,rfl,Nat.zero_le _,rfl,hc,KpC.refl _ _ _ _,hX,hY,hfu,Nat.le_refl _,hns⟩
 generalize cpPost w0 E out ns ov nv (gKids E.l E.fr n (zR E.l i) 0 (i+1) (zC E.l i)) (zC E.l i) W=Q at *
 clear hX hY hpt hq1 hi F hlen hns
 unfold partA
 have HKQ:=Hd hk2
 rw [hk2] at HBX HP1 HC1 HK1 ⊢
 clear hk2 hq3 hq4
 go_enter Tryz.func64,Tryz.ntmps64
 go_upto_region 1 with (fail)
 generalize W.alloc (.cells #[.int .u8 ((zR E.l i).1:Int),.int .i64 (q:Int),.string (zR E.l i).2.2] 38)=W1 at *
 have p1:=HP1.out.c1
 rw [HKQ.out] at p1
 go_wp2_with fail
 clear p1
 go_loopw [9] (fun iv wr=>eRel w0 E i q n W1 ov nv X Y iv wr) (fun iv _=>q-(intOf iv).toNat)
 case atStart=>exact HR0.out W1 HC1.out
 case round =>
  unfold eRel at hrel
  obtain ⟨nth,k,m,out',ns',ov',nv',rfl,hnq,hk,hc,hkp,hx,hy,hm,hmn,hns'⟩:=hrel
  by_cases hlt:nth<q
  ·obtain ⟨hks,hk',hke⟩:=zVk (zK HF.out.w) hil hq2 hk hlt
   obtain ⟨m,rfl⟩:∃ m',m=m'+1:=⟨m-1,by omega⟩
   rw [gKids,if_neg (by omega)] at hx hy
   have hkl:k<E.l.length:=by omega
   have HPr:Hid (PK wr W.heap.size (zR E.l i)):=Hd (by
    have h:=HP1.out
    unfold PK at *
    rw [hkp.low _ (lt_of_block h) HTG.out HTO.out HTN.out];exact h)
   have hto:ov'.ownBlock≠some W.heap.size:=zPv HP1.out hkp HTO.out
   have htn:nv'.ownBlock≠some W.heap.size:=fun e=>by
    have hl:=lt_of_block HP1.out
    rcases hkp.nn _ e with e | e
    ·exact HTN.out e
    ·omega
   have HTO':=Hd hto;have HTN':=Hd htn
   have HLA:=HF.out.L
   obtain ⟨la,lc,hvl,hlc⟩:=HF.out.L.slice
   rw [hvl] at HLA
   obtain ⟨lb,lo,rfl,y1,y2,y3,y4⟩:=HLA.at (Below.refl _ _) (show 0<E.l.length by omega)
   clear y1 y2 y3 y4
   have hpk:zR E.l k=E.l[k]:=by unfold zR;simp [List.getD_eq_getElem?_getD,hkl]
   have hpks:(zR E.l k).2.2.size≤1048576:=by rw [hpk];exact (HF.out.s.2 _ (List.getElem_mem hkl)).2
   have HSF:Hid (∀ W',Below wr.heap.size wr W'→W'.cell? ⟨E.g,0,none⟩=some (.slice (some ⟨lb,lo,none⟩) E.l.length lc)∧W'.cell? ⟨E.g,4,none⟩=some (.int .i64 (k:Int))∧W'.cell? ⟨lb,lo+k*3,none⟩=some (.int .u8 ((zR E.l k).1:Int))∧W'.cell? ⟨lb,lo+k*3+1,none⟩=some (.int .i64 (zR E.l k).2.1)∧W'.cell? ⟨lb,lo+k*3+2,none⟩=some (.string (zR E.l k).2.2)∧W'.cell? ⟨W.heap.size,0,none⟩=some (.int .u8 ((zR E.l i).1:Int))∧W'.cell? ⟨W.heap.size,1,none⟩=some (.int .i64 (zR E.l i).2.1)∧W'.cell? ⟨W.heap.size,2,none⟩=some (.string (zR E.l i).2.2)∧Hid (Below wr.heap.size wr W')):=Hd fun W' hb=>by
    have hc':=hc.below hb
    have hp':=HPr.out.keep hb
    obtain ⟨b2,o2,e',_,_,_,hcc⟩:=HLA.at hc'.b (show 0<E.l.length by omega)
    simp only [Option.some.injEq,Addr.mk.injEq,and_true] at e'
    obtain ⟨rfl,rfl⟩:=e'
    obtain ⟨d0,d1,d2⟩:=hcc k hkl
    rw [hpk]
    exact ⟨by rw [hc'.s.cells.1,hvl],hc'.s.cells.2.2.2.2.1,d0,d1,d2,hp'.c0,hp'.c1,hp'.c2,Hd hb⟩
   have hwb:Below w0.heap.size w0 wr:=hc.b
   have CV:=Hd (fun W' (hb:Below wr.heap.size wr W')=>zFb (zR E.l k) hpks W' ((HF.out.M.below hwb).below hb))
   have CE:=Hd (fun W' (hb:Below wr.heap.size wr W')=>zNe (zR E.l i) nth (by omega) hps W' ((HF.out.M.below hwb).below hb))
   unfold partA at CV CE
   have HC:=Hd hc;have HKP:=Hd hkp;have HNS:=Hd hns';have HXX:=Hd hx;have HYY:=Hd hy
   have hk0:(0:Int)≤(k:Int):=by omega
   have hkll:(k:Int)<E.l.length:=by omega
   have hklc:(k:Int)<(lc:Int):=by omega
   clear hc hkp hns' hx hy hto htn hvl HLA hpk hwb
   go_upto_region 4 with (fail)
   have HBd:=Hd (Below.refl wr.heap.size wr).drew
   refine zBe (fun a a' w'=>a'=(((((((((((((((a.put (some 12) (.pointer (some ⟨E.g,0,none⟩))).put (some 13) (.pointer (some ⟨E.g,0,none⟩))).put (some 14) (.pointer (some ⟨E.g,0,none⟩))).put (some 15) (.slice (some ⟨lb,lo,none⟩) E.l.length lc)).put (some 16) (.pointer (some ⟨E.g,0,none⟩))).put (some 17) (.pointer (some ⟨E.g,0,none⟩))).put (some 18) (.pointer (some ⟨E.g,4,none⟩))).put (some 19) (.int .i64 (k:Int))).put (some 20) (.pointer (some ⟨lb,lo+k*3,none⟩))).put (some 21) (.agg #[.int .u8 ((zR E.l k).1:Int),.int .i64 (zR E.l k).2.1,.string (zR E.l k).2.2])).put (some 22) (.int .i64 (yL (zR E.l k):Int))).put (some 23) (.agg #[.int .u8 ((zR E.l i).1:Int),.int .i64 (zR E.l i).2.1,.string (zR E.l i).2.2])).put (some 24) (.int .i64 (nth:Int))).put (some 25) (.int .i64 (xD (zR E.l i) nth:Int))).put (some 26) (.bool (decide (yL (zR E.l k)<xD (zR E.l i) nth))))∧Hid (Below wr.heap.size wr w')) ?_ ?_
   ·go_region_held3 (fun W'=>W'.cell? ⟨E.g,0,none⟩=some (.slice (some ⟨lb,lo,none⟩) E.l.length lc)∧W'.cell? ⟨E.g,4,none⟩=some (.int .i64 (k:Int))∧W'.cell? ⟨lb,lo+k*3,none⟩=some (.int .u8 ((zR E.l k).1:Int))∧W'.cell? ⟨lb,lo+k*3+1,none⟩=some (.int .i64 (zR E.l k).2.1)∧W'.cell? ⟨lb,lo+k*3+2,none⟩=some (.string (zR E.l k).2.2)∧W'.cell? ⟨W.heap.size,0,none⟩=some (.int .u8 ((zR E.l i).1:Int))∧W'.cell? ⟨W.heap.size,1,none⟩=some (.int .i64 (zR E.l i).2.1)∧W'.cell? ⟨W.heap.size,2,none⟩=some (.string (zR E.l i).2.2)∧Hid (Below wr.heap.size wr W'))
     (first | exact HSF.out _ HBd.out | exact HSF.out _ (zB HBd.out hbA) | exact HSF.out _ (zB HBd.out hbB) | exact HSF.out _ (zB (zB HBd.out hbA) hbB) | exact HSF.out _ (zB (zB HBd.out hbB) hbA))
     (first
      | (go_at_call 86;refine (CV.out _ (by first | exact HBd.out | exact zB HBd.out hbB)).mono ?_;rintro e wA ⟨rfl,hbA⟩;(try dsimp only))
      | (go_at_call 87;refine (CE.out _ (by first | exact HBd.out | exact zB HBd.out hbA)).mono ?_;rintro e wB ⟨rfl,hbB⟩;(try dsimp only)))
    all_goals
     rename_i hH
     obtain ⟨_,_,_,_,_,_,_,_,HBE⟩:=hH
     exact ⟨by kernel_rfl,HBE⟩
   rintro _ w4 ⟨rfl,HB4⟩
   (try simp only [aP])
   have HC4:=Hd (HC.out.below HB4.out)
   have HK4:=Hd (HKP.out.trans (KpC.of_below HB4.out))
   clear HC HKP HB4 CV CE HSF HPr HTO' HTN'
   have HST:Hid (∀ w7 ov7 nv7,CpIn w0 E (out'++(brk (zR E.l i) nth (zR E.l k)).map (·.1)++(gPart E.l E.fr m k).map (·.1)) (ns'++(brk (zR E.l i) nth (zR E.l k)).map (·.2)++(gPart E.l E.fr m k).map (·.2)) (zC E.l k) ov7 nv7 w7→KpC E.g ov nv ov7 nv7 W1 w7→eRel w0 E i q n W1 ov nv X Y (.int .i64 ((nth:Int)+1)) w7):=Hd fun w7 ov7 nv7 hc hkp=>by
    have hx:=HXX.out;have hy:=HYY.out;have hn:=HNS.out
    unfold eRel
    refine ⟨nth+1,zC E.l k,m,_,_,ov7,nv7,by push_cast;rfl,hlt,hk',hc,hkp,by rw [← hx];simp [List.append_assoc],by rw [← hy];simp [List.append_assoc],?_,by omega,by simp [hn]⟩
    have:=(zN (zK HF.out.w) hkl).1
    omega
   have HLN:Hid (out'.length+(brk (zR E.l i) nth (zR E.l k)).length+(gPart E.l E.fr m k).length≤1000000000):=Hd (by
    have h:=congrArg List.length HXX.out
    simp only [List.length_append,List.length_map] at h
    omega)
   have hfuel:2*(zC E.l k-k)≤m:=by omega
   have HBK:Hid (brk (zR E.l i) nth (zR E.l k)=if yL (zR E.l k)<xD (zR E.l i) nth then [paren] else []):=Hd (by unfold brk;rw [← zNf];by_cases h:yL (zR E.l k)<xD (zR E.l i) nth <;> simp [h])
   clear HXX HYY hk hk' hm
   by_cases hz:yL (zR E.l k)<xD (zR E.l i) nth
   ·have hz1:decide (yL (zR E.l k)<xD (zR E.l i) nth)=true:=decide_eq_true hz
    have hzi:((yL (zR E.l k):Nat):Int)<(xD (zR E.l i) nth:Int):=by omega
    have hbk:=HBK.out
    rw [if_pos hz] at hbk
    rw [hbk] at HST HLN
    clear hbk HBK
    have hol:out'.length≤1000000000:=by have:=HLN.out;omega
    have hnl:ns'.length≤1000000000:=by rw [HNS.out];exact hol
    go_upto_region 5 with (fail)
    obtain ⟨c0,c1,c2,c3,c4,cz⟩:=HC4.out.s.cells
    obtain ⟨v5,w5,hr5,hs5,hc5,hk5⟩:=HC4.out.part (28,1,ByteArray.empty) (by omega)
    obtain ⟨v5a,v5n,v5c,rfl⟩:=zL hc5.o
    obtain ⟨e0,e1,e2,e3,e4,ez⟩:=hs5.cells
    have HC5:=Hd hc5;have HK5:=Hd (HK4.out.trans hk5)
    clear hs5 hc5 hk5
    go_upto_region 6 with (at_builtin;refine zF rfl _ _ _ _ hr5 rfl rfl rfl rfl ?_)
    clear c0 c1 c2 c3 c4 cz e0 e1 e2 e3 e4 ez hr5 HC4 HK4
    generalize w5.setCell ⟨E.g,2,none⟩ (.slice v5a v5n v5c)=w5' at *
    obtain ⟨c0,c1,c2,c3,c4,cz⟩:=HC5.out.s.cells
    obtain ⟨v6,w6,hr6,hs6,hc6,hk6⟩:=HC5.out.num (-1) (by omega)
    obtain ⟨v6a,v6n,v6c,rfl⟩:=zL hc6.f
    obtain ⟨e0,e1,e2,e3,e4,ez⟩:=hs6.cells
    have HC6:=Hd hc6;have HK6:=Hd (HK5.out.trans hk6)
    clear hs6 hc6 hk6
    go_upto_region 7 with (at_builtin;refine zF rfl _ _ _ _ hr6 rfl rfl rfl rfl ?_)
    clear c0 c1 c2 c3 c4 cz e0 e1 e2 e3 e4 ez hr6 HC5 HK5
    generalize w6.setCell ⟨E.g,3,none⟩ (.slice v6a v6n v6c)=w6' at *
    go_wp2_with fail
    have hp:=ihP m (by omega)
    unfold PutC at hp
    refine (hp w6' _ _ k _ _ HC6.out hkl hfuel (by have:=HLN.out;simp only [List.length_append,List.length_singleton] at *;omega) (by have:=HNS.out;simp only [List.length_append,List.length_singleton];omega)).mono ?_
    clear hp
    intro e w7 hp
    unfold cpPost at hp
    obtain ⟨ov7,nv7,v7,rfl,hc7,hk7⟩:=hp
    have HRL:=Hd (HST.out w7 ov7 nv7 hc7 (HK6.out.trans hk7))
    clear hc7 hk7
    go_wp2_with fail
    go_roundw
    case rel=>exact HRL.out
    case measure=>simp only [intOf];omega
   ·have hz1:decide (yL (zR E.l k)<xD (zR E.l i) nth)=false:=decide_eq_false hz
    have hzi:¬ ((yL (zR E.l k):Nat):Int)<(xD (zR E.l i) nth:Int):=by omega
    have hbk:=HBK.out
    rw [if_neg hz] at hbk
    rw [hbk] at HST HLN
    simp only [List.map_nil,List.append_nil,List.length_nil,Nat.add_zero] at HST HLN
    clear hbk HBK
    go_wp2_with fail
    have hp:=ihP m (by omega)
    unfold PutC at hp
    refine (hp w4 _ _ k _ _ HC4.out hkl hfuel HLN.out HNS.out).mono ?_
    clear hp
    intro e w7 hp
    unfold cpPost at hp
    obtain ⟨ov7,nv7,v7,rfl,hc7,hk7⟩:=hp
    have HRL:=Hd (HST.out w7 ov7 nv7 hc7 (HK4.out.trans hk7))
    clear hc7 hk7
    go_wp2_with fail
    go_roundw
    case rel=>exact HRL.out
    case measure=>simp only [intOf];omega
  ·obtain rfl:nth=q:=by omega
   obtain rfl:zC E.l i=k:=by rw [hq2] at hk;exact Option.some.inj hk
   cases m with
   | zero=>omega
   | succ m =>
    rw [gKids,if_pos rfl,List.map_nil,List.append_nil] at hx hy
    subst hx;subst hy
    have HZ:Hid (∀ v,Q (.returned v) wr):=Hd fun v=>HQ.out W1 wr ov' nv' v HK1.out hc hkp
    clear hc hkp
    go_wp2_with fail
    go_end0
    exact HZ.out _
end Go.Proofs.YtfalelkfhandfaaGreatDoor
namespace Go.Proofs.YtfalelkfhandfaaGreatDoor
set_option linter.all false
attribute [local irreducible] Calls
open Go.RowKit

theorem zVi (w0:World) (E:CpE) (F:CpF w0 E):∀ n,(∀ m,m≤n→PutC w0 E m)∧(∀ m,m≤n→EachC w0 E m)
 | 0=>by
  constructor
  ·intro m hm
   obtain rfl:m=0:=by omega
   unfold PutC
   intro W out ns i ov nv hc hi h
   have:=(zN (zK F.w) hi).1
   omega
  ·intro m hm
   obtain rfl:m=0:=by omega
   unfold EachC
   intro W out ns i ov nv hc hi h
   omega
 | n+1=>by
  obtain ⟨h1,h2⟩:=zVi w0 E F n
  constructor
  ·intro m hm
   by_cases e:m≤n
   ·exact h1 m e
   ·obtain rfl:m=n+1:=by omega
    unfold PutC
    intro W out ns i ov nv hc hi hf hl hn
    exact yBa w0 E F n (h2 n (Nat.le_refl n)) W out ns i ov nv hc hi hf hl hn
  ·intro m hm
   by_cases e:m≤n
   ·exact h2 m e
   ·obtain rfl:m=n+1:=by omega
    unfold EachC
    intro W out ns i ov nv hc hi hf hl hn
    exact zZi w0 E F (n+1) (fun m hm=>h1 m (by omega)) W out ns i ov nv hc hi hf hl hn
theorem zZh (l:List Prt) (fr:List Int) (j:Nat):(gOne l fr j).length≤2:=by
 unfold gOne
 split <;> simp
theorem zRn (l:List Prt) (fr:List Int):∀ n a,((List.range' a n).flatMap (gOne l fr)).length≤2*n
 | 0,a=>by simp
 | n+1,a=>by
  have h1:=zRn l fr n (a+1)
  have h2:=zZh l fr a
  rw [List.range'_succ,List.flatMap_cons,List.length_append]
  omega
theorem zJi (l:List Prt) (fr:List Int):(guardZ l fr).length≤2*l.length:=by
 unfold guardZ gSeg
 have:=zRn l fr (l.length-0) 0
 omega
theorem zVj (w0:World) (E:CpE) (F:CpF w0 E) (W:World) (ov nv:Value) (hi:CpIn w0 E [] [] 0 ov nv W) :
  Calls Tryz.prog 43 #[.pointer (some ⟨E.g,0,none⟩)] W (cpPost w0 E [] [] ov nv (guardZ E.l E.fr) E.l.length W):=by
 have h0:=xA F.w
 have h:=(zVi w0 E F (2*E.l.length)).1 _ (Nat.le_refl _)
 unfold PutC at h
 have h1:=zJi E.l E.fr
 have h2:=F.s.1
 have:=h W [] [] 0 ov nv hi h0.1 (by rw [h0.2];omega) (by rw [zGt E.l E.fr F.w];simp;omega) rfl
 rw [zGt E.l E.fr F.w,h0.2] at this
 exact this
end Go.Proofs.YtfalelkfhandfaaGreatDoor
namespace Go.Proofs.YtfalelkfhandfaaGreatDoor
set_option maxRecDepth 100000
set_option maxHeartbeats 32000000
set_option linter.all false
attribute [local irreducible] Calls
attribute [local irreducible] wpStill
open Go.RowKit

theorem jQ {W:World} {B B':Nat} {e:TypeId} {size n:Nat} {v:Value} {xs:List Value} (h:W.ownsRow B e size v n xs) (hB:B'≤B):W.ownsRow B' e size v n xs:=by
 obtain ⟨h1,h2⟩:=h
 refine ⟨h1,?_⟩
 rcases h2 with h2 | ⟨g,cap,cur,a1,a2,a3⟩
 ·exact Or.inl h2
 ·exact Or.inr ⟨g,cap,cur,a1,Nat.le_trans hB a2,a3⟩
@[irreducible] def xE (w:World) (l:List Prt) (fr:List Int) (e:Ending) (w':World):Prop :=
 Below w.heap.size w w' ∧
  if zZ l=false then e=.returned (.tuple #[.slice none 0 0,.slice none 0 0,.int .i64 8])
  else if fr.length≠l.length then e=.returned (.tuple #[.slice none 0 0,.slice none 0 0,.int .i64 1])
  else ∃ ov nv,e=.returned (.tuple #[ov,nv,.int .i64 0])∧w'.ownsRow w.heap.size 38 3 ov (guardZ l fr).length (zV ((guardZ l fr).map (·.1)))∧w'.ownsRow w.heap.size 3 1 nv (guardZ l fr).length (intsV ((guardZ l fr).map (·.2)))
theorem zQb (w:World) (l:List Prt) (fr:List Int) (vl vf:Value) (hL:zD w vl l) (hF:zI w vf .i64 fr) (hs:SmallL l) (hM:MaxC w) :
  Calls Tryz.prog 22 #[vl,vf] w (xE w l fr):=by
 have CW:=Hd (zEr l (by have:=hs.1;omega) vl w hL)
 obtain ⟨la,lc,hvl,hlc⟩:=hL.slice
 obtain ⟨fa,fc,hvf,hfc,_⟩:=hF.open'
 have HNO:Hid (zZ l=false→∀ w',Below w.heap.size w w'→xE w l fr (.returned (.tuple #[.slice none 0 0,.slice none 0 0,.int .i64 8])) w'):=Hd fun h w' hb=>by
  unfold xE;rw [if_pos h];exact ⟨hb,rfl⟩
 have HN2:Hid (zZ l=true→fr.length≠l.length→∀ w',Below w.heap.size w w'→xE w l fr (.returned (.tuple #[.slice none 0 0,.slice none 0 0,.int .i64 1])) w'):=Hd fun h h2 w' hb=>by
  unfold xE;rw [if_neg (by rw [h];decide),if_pos h2];exact ⟨hb,rfl⟩
 have HYES:Hid (zZ l=true→fr.length=l.length→∀ w' ov nv,Below w.heap.size w w'→w'.ownsRow w.heap.size 38 3 ov (guardZ l fr).length (zV ((guardZ l fr).map (·.1)))→w'.ownsRow w.heap.size 3 1 nv (guardZ l fr).length (intsV ((guardZ l fr).map (·.2)))→xE w l fr (.returned (.tuple #[ov,nv,.int .i64 0])) w'):=Hd fun h h2 w' ov nv hb ho hn=>by
  unfold xE;rw [if_neg (by rw [h];decide),if_neg (by simp [h2])];exact ⟨hb,ov,nv,rfl,ho,hn⟩
 generalize xE w l fr=Q at *
 subst hvl;subst hvf
 have HL:=Hd hL;have HF:=Hd hF;have HS:=Hd hs;have HM:=Hd hM
 clear hL hF hs hM
 go_enter Tryz.func22,Tryz.ntmps22
 go_wp2_with fail
 refine CW.out.mono ?_
 rintro e w1 ⟨rfl,hb1⟩
 cases hw:zZ l with
 | false =>
  have HZ:=Hd (HNO.out hw w1 hb1)
  go_wp2_with fail
  exact HZ.out
 | true =>
  by_cases hn:fr.length=l.length
  ·have hn1:(fr.length:Int)=(l.length:Int):=by omega
   go_upto_region 5 with (fail)
   go_upto_region 6 with (fail)
   have hFl:zI w (.slice fa l.length fc) .i64 fr:=by have h:=HF.out;rwa [hn] at h
   obtain ⟨E,hE⟩:∃ E:CpE,E=⟨l,fr,w1.heap.size,w1.heap.size+1,85,.slice la l.length lc,.slice fa l.length fc⟩:=⟨_,rfl⟩
   have HCF:CpF w1 E:=by subst hE;exact ⟨HL.out.below hb1,hFl.below hb1,hw,hn,HS.out,HM.out.below hb1⟩
   have HCI:CpIn w1 E [] [] 0 (.slice none 0 0) (.slice none 0 0) (w1.alloc (.cells #[.slice la l.length lc,.slice fa l.length fc,.slice none 0 0,.slice none 0 0,.int .i64 0] 85)):=by
    subst hE
    exact ⟨(Below.refl _ _).alloc (Nat.le_refl _) _,heap_alloc_new _ _,World.ownsRow_nil _ _ _ _,World.ownsRow_nil _ _ _ _,Nat.le_refl _,Nat.lt_succ_self _,by simp⟩
   have CG:=Hd (zVj w1 E HCF _ _ _ HCI)
   have HG:Hid (E.g=w1.heap.size∧E.l=l∧E.fr=fr∧E.B=w1.heap.size+1):=Hd (by subst hE;exact ⟨rfl,rfl,rfl,rfl⟩)
   rw [HG.out.1,HG.out.2.1,HG.out.2.2.1] at CG
   clear HCF HCI hE hFl
   go_wp2_with fail
   refine CG.out.mono ?_
   intro e w3 hp
   unfold cpPost at hp
   obtain ⟨ov,nv,v,rfl,hc,hk⟩:=hp
   have hB3:Below w.heap.size w w3:=zB hb1 hc.b
   have hgB:=HG.out.1
   have HSC:Hid (∀ W',Below w3.heap.size w3 W'→W'.cell? ⟨w1.heap.size,2,none⟩=some ov∧W'.cell? ⟨w1.heap.size,3,none⟩=some nv):=Hd fun W' hb=>by
    have h:=(hc.below hb).s.cells
    rw [hgB] at h
    exact ⟨h.2.2.1,h.2.2.2.1⟩
   have HZ:Hid (Q (.returned (.tuple #[ov,nv,.int .i64 0])) w3.drew):=Hd (by
    have h:=hc.below (Below.refl _ _).drew
    refine HYES.out hw hn w3.drew ov nv (zB hB3 (Below.refl _ _).drew) ?_ ?_
    ·have:=jQ h.o (show w.heap.size≤E.B by have:=HG.out.2.2.2;have:=hb1.size;omega)
     simpa using this
    ·have:=jQ h.f (show w.heap.size≤E.B by have:=HG.out.2.2.2;have:=hb1.size;omega)
     simpa using this)
   clear hc hk hB3 hgB CG
   go_upto_region 7 with (fail)
   go_region_held3 (fun W'=>W'.cell? ⟨w1.heap.size,2,none⟩=some ov∧W'.cell? ⟨w1.heap.size,3,none⟩=some nv) (exact HSC.out _ (Below.refl _ _).drew) (fail)
   go_wp2_with fail
   exact HZ.out
  ·have hn1:¬ (fr.length:Int)=(l.length:Int):=by omega
   have HZ:=Hd (HN2.out hw hn w1 hb1)
   go_wp2_with fail
   exact HZ.out
end Go.Proofs.YtfalelkfhandfaaGreatDoor
