/- Layer 20: the maker's top, walked (printed by tools/genmakt.py). -/
import Derived.Test.YtmklemelgdilkaaGreatDoorPackMk
import Derived.Test.YtmklemelgdilkaaGreatDoorMakPMk
import Derived.Test.YtmklemelgdilkaaGreatDoorTermQMk
namespace Go.Proofs.YtmklemelgdilkaaGreatDoor
set_option linter.all false
attribute [local irreducible] Calls
attribute [local irreducible] wpStill
open Go.RowKit

theorem elem_intS:Tryz.prog.underlying 27=some (.slice (Tryz.prog.elem 27)):=by kernel_rfl
theorem size_int_run (w:World):(sizeOf (Tryz.prog.elem 27)).run Tryz.prog w=.ok 1 w:=by
 have h:(Tryz.prog.info? (Tryz.prog.elem 27)).map (·.size)=some 1:=by kernel_rfl
 cases hq:Tryz.prog.info? (Tryz.prog.elem 27) with
 | none=>rw [hq] at h;cases h
 | some i =>
  rw [hq] at h
  simp only [Option.map_some,Option.some.injEq] at h
  simp [sizeOf,typeInfo,hq,h]
theorem slice_fromI (g off n c lo:Nat) (hlo:lo≤n):∃ p:Option Addr,(∀ w,(Instr.slice 27 (.slice (some ⟨g,off,none⟩) n c) (some (.int .i64 (lo:Int))) none none).run Tryz.prog w=.ok (.slice p (n-lo) (c-lo)) w)∧(lo<c→p=some ⟨g,off+lo*1,none⟩):=by
 refine ⟨if c=lo then some ⟨g,off,none⟩ else some ⟨g,off+lo*1,none⟩,fun w=>?_,fun h=>if_neg (by omega)⟩
 rw [run_slice_l w _ _ _ _ elem_intS .i64 (lo:Int) (by omega) (by omega),size_int_run]
 simp only [Result.andThen,sliced,Int.toNat_natCast]
 by_cases h:c=lo
 ·rw [if_pos h,if_pos h]
 ·rw [if_neg h,if_neg h];simp [Addr.add]
theorem Row.tail {W:World} {b off n c sz:Nat} {p:Option Addr} {cs ds:List Value} (h:Row W (.slice (some ⟨b,off,none⟩) (n+1) c) (n+1) sz (cs++ds)) (hc:cs.length=sz) (hp:1<c→p=some ⟨b,off+1*sz,none⟩) (hn:p=none→c-1=0):Row W (.slice p n (c-1)) n sz ds:=by
 obtain ⟨h1,a,cap,hv,hcap,hz,h2⟩:=h
 simp only [Value.slice.injEq] at hv
 obtain ⟨rfl,_,rfl⟩:=hv
 obtain ⟨b',off',e,hlt,hcell⟩:=h2 (by omega)
 simp only [Option.some.injEq,Addr.mk.injEq,and_true] at e
 obtain ⟨rfl,rfl⟩:=e
 rw [List.length_append,hc,Nat.add_mul] at h1
 refine ⟨by omega,p,c-1,rfl,by omega,hn,fun hpos=>⟨b,off+sz,by rw [hp (by omega),Nat.one_mul],hlt,fun i hi=>?_⟩⟩
 rw [Nat.add_assoc,hcell _ (by rw [Nat.add_mul];omega),List.getElem?_append_right (by omega),hc,show sz+i-sz=i by omega]
theorem Row.setG {W:World} {v:Value} {n sz g:Nat} {cs:List Value} (h:Row W v n sz cs) (hne:0<n→∀ b off m c,v=.slice (some ⟨b,off,none⟩) m c→b≠g) (j:Nat) (u:Value):Row (W.setCell ⟨g,j,none⟩ u) v n sz cs:=by
 obtain ⟨h1,a,cap,e,hc,hz,h2⟩:=h
 refine ⟨h1,a,cap,e,hc,hz,fun hn=>?_⟩
 obtain ⟨b,off,rfl,hlt,hcell⟩:=h2 hn
 exact ⟨b,off,rfl,by simpa using hlt,fun i hi=>by rw [Tcell_setCell_ne (hne hn _ _ _ _ e)];exact hcell i hi⟩
structure Above (B:Nat) (W W':World):Prop where
 size:W.heap.size≤W'.heap.size
 up:∀ b,B≤b→b<W.heap.size→W'.heap[b]?=W.heap[b]?
theorem Above.refl (B:Nat) (W:World):Above B W W:=⟨Nat.le_refl _,fun _ _ _=>rfl⟩
theorem Above.trans {B:Nat} {a b c:World} (h:Above B a b) (k:Above B b c):Above B a c:=⟨Nat.le_trans h.size k.size,fun i h1 h2=>(k.up i h1 (Nat.lt_of_lt_of_le h2 h.size)).trans (h.up i h1 h2)⟩
theorem Above.of_below {B:Nat} {W W':World} (h:Below W.heap.size W W'):Above B W W':=⟨h.size,fun b _ h2=>h.block b h2⟩
theorem Above.setCell {B:Nat} {a W:World} (h:Above B a W) {b:Nat} (hb:b<B) (j:Nat) (u:Value):Above B a (W.setCell ⟨b,j,none⟩ u) :=
 ⟨by have:=h.size;simpa using this,fun i h1 h2=>by rw [heap_setCell_other _ _ _ _ (show i≠b by omega)];exact h.up i h1 h2⟩
theorem Above.mono {B B':Nat} {W W':World} (h:Above B W W') (hB:B≤B'):Above B' W W':=⟨h.size,fun b h1 h2=>h.up b (Nat.le_trans hB h1) h2⟩
theorem Row.above {B:Nat} {W W':World} {v:Value} {n sz:Nat} {cs:List Value} (h:Row W v n sz cs) (hb:0<n→∀ b off m c,v=.slice (some ⟨b,off,none⟩) m c→B≤b) (ha:Above B W W'):Row W' v n sz cs:=by
 obtain ⟨h1,a,cap,e,hc,hz,h2⟩:=h
 refine ⟨h1,a,cap,e,hc,hz,fun hn=>?_⟩
 obtain ⟨b,off,rfl,hlt,hcell⟩:=h2 hn
 refine ⟨b,off,rfl,Nat.lt_of_lt_of_le hlt ha.size,fun i hi=>?_⟩
 rw [← hcell i hi]
 simp only [World.cell?,ha.up b (hb hn _ _ _ _ e) hlt]
def outT (E:MkE) (out:List PN):List PN:=if E.r.goal=3 then out.drop 1 else out
@[irreducible] def topPost (w0:World) (E:MkE) (out:List PN) (lg:Bool) (e:Ending) (w':World):Prop :=
 ∃ ov fv long,∃ k:Int,e=.returned (.int .i64 k)∧Below w0.heap.size w0 w'∧mkB E ov fv long w'∧(lg=true→long=true) ∧
  (lg=false→long=decide ((131072:Int)<((outT E out).length:Int))∧k=(if E.r.goal=3 then (match out with | x::_=>x.1.2.1 | []=>0) else 1)∧∀ W',Above w0.heap.size w' W'→PartRow W' ov ((outT E out).map (·.1))∧RowInts W' fv .i64 ((outT E out).map (·.2)))
set_option maxRecDepth 100000 in
set_option maxHeartbeats 16000000 in
theorem mk_top (w0:World) (E:MkE) (out:List PN) (lg:Bool) (ov fv:Value) (W:World) (hi:MkIn w0 E out lg ov fv W) (hn:out.length≤131073) (h0:lg=false→E.r.goal=3→0<out.length) :
  Calls Tryz.prog 40 #[.pointer (some ⟨E.g,0,none⟩)] W (topPost w0 E out lg):=by
 obtain ⟨c0,c1,c2,c3,c4,c5,c6,c7,c8,c9,c10,cz⟩:=hi.s.cells
 clear c0 c2 c3 c4 c5 c6 c7
 have z10:=cz 10
 have HI:=Hd hi
 cases lg with
 | true =>
  have HX:RowKit.Hid (topPost w0 E out true (.returned (.int .i64 0)) W):=Hd (by
   unfold topPost
   exact ⟨ov,fv,true,0,rfl,HI.out.b,HI.out.s,fun _=>rfl,fun h=>by cases h⟩)
  generalize topPost w0 E out true=Q at *
  clear hi h0 c1 c8 c9 cz z10
  go_enter Tryz.func40,Tryz.ntmps40
  go_wp2_with fail
  exact HX.out
 | false =>
 by_cases hg:E.r.goal=3
 case neg =>
  have g1:((E.r.goal:Int) != 3)=true:=by rw [bne_iff_ne];omega
  have g2:((E.r.goal:Int) == 3)=false:=by rw [beq_eq_false_iff_ne];omega
  obtain ⟨oa,oc,rfl,hoc⟩:=Row.shape (Row.of_owns hi.o)
  have HX:RowKit.Hid (topPost w0 E out false (.returned (.int .i64 1)) (W.setCell ⟨E.g,10,none⟩ (.bool (decide ((131072:Int)<(out.length:Int)))))):=Hd (by
   have h:=(HI.out.long (decide ((131072:Int)<(out.length:Int)))).1
   have e:outT E out=out:=by unfold outT;rw [if_neg hg]
   unfold topPost
   refine ⟨_,_,_,1,rfl,h.b,h.s,fun h=>(by cases h),fun _=>⟨by rw [e],by rw [if_neg hg],fun W' ha=>?_⟩⟩
   rw [e]
   have hgB:=h.gB
   have hg0:=h.g0
   refine ⟨?_,?_⟩
   ·unfold PartRow
    rw [List.length_map]
    exact Row.above (Row.of_owns h.o) (fun _ b off m c e=>by have:=(h.o.lt b (by rw [e];rfl)).1;omega) ha
   ·unfold RowInts
    rw [List.length_map]
    exact Row.above (Row.of_owns h.f) (fun _ b off m c e=>by have:=(h.f.lt b (by rw [e];rfl)).1;omega) ha)
  generalize topPost w0 E out false=Q at *
  clear hi h0 hg c9 cz
  go_enter Tryz.func40,Tryz.ntmps40
  go_wp2_with fail
  exact HX.out
 have hpos:=h0 rfl hg
 obtain ⟨x,M,rfl⟩:∃ x M,out=x::M:=by
  cases out with
  | nil=>simp at hpos
  | cons x M=>exact ⟨x,M,rfl⟩
 have e:outT E (x::M)=M:=by unfold outT;rw [if_pos hg];rfl
 have ho:=hi.o
 have hf:=hi.f
 obtain ⟨oa,on,oc,hov⟩:=owns_slice ho
 obtain ⟨fa,fn,fc,hfv⟩:=owns_slice hf
 subst hov hfv
 obtain rfl:on=(x::M).length:=by
  obtain ⟨_,_,_,e,_⟩:=Row.of_owns ho
  simp only [Value.slice.injEq] at e
  exact e.2.1
 obtain rfl:fn=(x::M).length:=by
  obtain ⟨_,_,_,e,_⟩:=Row.of_owns hf
  simp only [Value.slice.injEq] at e
  exact e.2.1
 obtain ⟨gO,rfl⟩:=ownsRow_some ho (by simp)
 obtain ⟨gF,rfl⟩:=ownsRow_some hf (by simp)
 have hkc:W.cell? ⟨gO,1,none⟩=some (.int .i64 x.1.2.1):=by
  rw [ho.cellAt 1 (by simp;omega)]
  rfl
 rw [List.length_cons] at ho hf hn
 have HRO:RowKit.Hid (Row W (.slice (some ⟨gO,0,none⟩) (M.length+1) oc) (M.length+1) 3 (partV x.1++partsV (M.map (·.1)))):=Hd (Row.of_owns ho)
 have HRF:RowKit.Hid (Row W (.slice (some ⟨gF,0,none⟩) (M.length+1) fc) (M.length+1) 1 ([.int .i64 x.2]++intsV (M.map (·.2)))):=Hd (Row.of_owns hf)
 obtain ⟨po,hso,hpo⟩:=slice_fromP gO 0 (M.length+1) oc 1 (by omega)
 obtain ⟨pf,hsf,hpf⟩:=slice_fromI gF 0 (M.length+1) fc 1 (by omega)
 have hso:∀ w,(Instr.slice 23 (.slice (some ⟨gO,0,none⟩) (M.length+1) oc) (some (.int .i64 1)) none none).run Tryz.prog w=.ok (.slice po M.length (oc-1)) w:=fun w=>by
  have:=hso w
  rw [Nat.add_sub_cancel] at this
  exact this
 have hsf:∀ w,(Instr.slice 27 (.slice (some ⟨gF,0,none⟩) (M.length+1) fc) (some (.int .i64 1)) none none).run Tryz.prog w=.ok (.slice pf M.length (fc-1)) w:=fun w=>by
  have:=hsf w
  rw [Nat.add_sub_cancel] at this
  exact this
 have hoc:M.length+1≤oc:=by
  obtain ⟨_,_,_,e,h,_⟩:=HRO.out
  simp only [Value.slice.injEq] at e
  omega
 have hfc:M.length+1≤fc:=by
  obtain ⟨_,_,_,e,h,_⟩:=HRF.out
  simp only [Value.slice.injEq] at e
  omega
 have hgO:gO≠E.g:=fun h=>by have:=(ho.lt gO rfl).1;have:=hi.gB;omega
 have hgF:gF≠E.g:=fun h=>by have:=(hf.lt gF rfl).1;have:=hi.gB;omega
 have HTO:RowKit.Hid (Row W (.slice po M.length (oc-1)) M.length 3 (partsV (M.map (·.1)))):=Hd (Row.tail HRO.out rfl hpo (fun h=>by
  rcases Nat.lt_or_ge 1 oc with c | c
  ·rw [hpo c] at h;cases h
  ·omega))
 have HTF:RowKit.Hid (Row W (.slice pf M.length (fc-1)) M.length 1 (intsV (M.map (·.2)))):=Hd (Row.tail HRF.out rfl hpf (fun h=>by
  rcases Nat.lt_or_ge 1 fc with c | c
  ·rw [hpf c] at h;cases h
  ·omega))
 have HNO:RowKit.Hid (0<M.length→∀ b off m c,Value.slice po M.length (oc-1)=.slice (some ⟨b,off,none⟩) m c→b≠E.g):=Hd fun h b off m c e=>by
  rw [hpo (by omega)] at e
  simp only [Value.slice.injEq,Option.some.injEq,Addr.mk.injEq,and_true] at e
  rw [← e.1.1];exact hgO
 have HNF:RowKit.Hid (0<M.length→∀ b off m c,Value.slice pf M.length (fc-1)=.slice (some ⟨b,off,none⟩) m c→b≠E.g):=Hd fun h b off m c e=>by
  rw [hpf (by omega)] at e
  simp only [Value.slice.injEq,Option.some.injEq,Addr.mk.injEq,and_true] at e
  rw [← e.1.1];exact hgF
 have hid:=hi.below (Below.refl _ _).drew
 have HX:RowKit.Hid (topPost w0 E (x::M) false (.returned (.int .i64 x.1.2.1)) (((W.drew.setCell ⟨E.g,8,none⟩ (.slice po M.length (oc-1))).setCell ⟨E.g,9,none⟩ (.slice pf M.length (fc-1))).setCell ⟨E.g,10,none⟩ (.bool (decide ((131072:Int)<(M.length:Int)))))):=Hd (by
  have s1:=hid.s.set.1 (.slice po M.length (oc-1))
  have s2:=s1.set.2.1 (.slice pf M.length (fc-1))
  have s3:=s2.set.2.2 (decide ((131072:Int)<(M.length:Int)))
  have b1:=hid.b.setCell (p:=⟨E.g,8,none⟩) hi.g0 (.slice po M.length (oc-1))
  have b2:=b1.setCell (p:=⟨E.g,9,none⟩) hi.g0 (.slice pf M.length (fc-1))
  have b3:=b2.setCell (p:=⟨E.g,10,none⟩) hi.g0 (.bool (decide ((131072:Int)<(M.length:Int))))
  unfold topPost
  refine ⟨_,_,_,x.1.2.1,rfl,b3,s3,fun h=>(by cases h),fun _=>⟨by rw [e],by rw [if_pos hg],fun W' ha=>?_⟩⟩
  have hgB:=hi.gB
  have hg0:=hi.g0
  have l1:=(ho.lt gO rfl).1
  have l2:=(hf.lt gF rfl).1
  rw [e]
  refine ⟨?_,?_⟩
  ·unfold PartRow
   rw [List.length_map]
   exact Row.above ((((HTO.out.below (Below.refl _ _).drew).setG HNO.out _ _).setG HNO.out _ _).setG HNO.out _ _) (fun h b off m c e=>by
    rw [hpo (by omega)] at e
    simp only [Value.slice.injEq,Option.some.injEq,Addr.mk.injEq,and_true] at e
    omega) ha
  ·unfold RowInts
   rw [List.length_map]
   exact Row.above ((((HTF.out.below (Below.refl _ _).drew).setG HNF.out _ _).setG HNF.out _ _).setG HNF.out _ _) (fun h b off m c e=>by
    rw [hpf (by omega)] at e
    simp only [Value.slice.injEq,Option.some.injEq,Addr.mk.injEq,and_true] at e
    omega) ha)
 have z8:=cz 8
 have HM1:RowKit.Hid (mkB E (.slice po M.length (oc-1)) (.slice (some ⟨gF,0,none⟩) (M.length+1) fc) false (W.drew.setCell ⟨E.g,8,none⟩ (.slice po M.length (oc-1)))):=Hd (hid.s.set.1 _)
 have HM2:RowKit.Hid (mkB E (.slice po M.length (oc-1)) (.slice pf M.length (fc-1)) false ((W.drew.setCell ⟨E.g,8,none⟩ (.slice po M.length (oc-1))).setCell ⟨E.g,9,none⟩ (.slice pf M.length (fc-1)))):=Hd (HM1.out.set.2.1 _)
 rw [List.length_cons] at c8 c9
 have hg3:(E.r.goal:Int)=3:=by omega
 have hml:M.length≤131073:=by omega
 have h1n:(1:Int)≤((M.length:Int)+1):=by omega
 generalize topPost w0 E (x::M) false=Q at *
 clear hi h0 ho hf e hpo hpf HI hpos
 generalize x.1.2.1=kx at *
 go_enter Tryz.func40,Tryz.ntmps40
 go_upto_region 7 with (fail)
 have hS0:W.drew.cell? ⟨E.g,8,none⟩=some (.slice (some ⟨gO,0,none⟩) (M.length+1) oc)∧W.drew.cell? ⟨E.g,9,none⟩=some (.slice (some ⟨gF,0,none⟩) (M.length+1) fc):=⟨c8,c9⟩
 have z8:W.drew.frozen? ⟨E.g,8,none⟩=false:=z8
 clear c8 c9 c10 c1 z10 cz hkc hid
 refine wp_region_until (S:=fun W'=>W'.cell? ⟨E.g,8,none⟩=some (.slice (some ⟨gO,0,none⟩) (M.length+1) oc)∧W'.cell? ⟨E.g,9,none⟩=some (.slice (some ⟨gF,0,none⟩) (M.length+1) fc)) [14] (by kernel_rfl) ?_
 generalize W.drew=wd at *
 refine tkF 0 30 ?vq1 rfl (by kernel_rfl) (fun _ _ _ h=>h) (Or.inl ⟨by kernel_rfl,?hyq1⟩) (fun _=>hS0) ?restq1
 case hyq1=>intro w hSw;clear hSw;go_simp;(try with_reducible rfl)
 (try simp only [aP])
 refine tkF 1 31 ?vq2 rfl (by kernel_rfl) (fun _ _ _ h=>h) (Or.inl ⟨by kernel_rfl,?hyq2⟩) (fun _=>hS0) ?restq2
 case hyq2=>intro w hSw;clear hSw;go_simp;(try with_reducible rfl)
 (try simp only [aP])
 refine tkF 2 32 ?vq3 rfl (by kernel_rfl) (fun _ _ _ h=>h) (Or.inl ⟨by kernel_rfl,?hyq3⟩) (fun _=>hS0) ?restq3
 case hyq3=>intro w hSw;clear hSw;go_simp;(try with_reducible rfl)
 (try simp only [aP])
 refine tkF 3 33 ?vq4 rfl (by kernel_rfl) (fun _ _ _ h=>h) (Or.inl ⟨by kernel_rfl,?hyq4⟩) (fun _=>hS0) ?restq4
 case hyq4=>intro w hSw;clear hSw;go_simp;(try with_reducible rfl)
 (try simp only [aP])
 refine tkF 4 34 ?vq5 rfl (by kernel_rfl) (fun _ _ _ h=>h) (Or.inl ⟨by kernel_rfl,?hyq5⟩) (fun _=>hS0) ?restq5
 case hyq5=>intro w hSw;clear hSw;go_simp;(try with_reducible rfl)
 (try simp only [aP])
 refine tkU [14] 5 35 ?vq6 rfl (by kernel_rfl) (fun _ _ _ h=>h) (Or.inl ⟨by kernel_rfl,?hyq6⟩) hS0 ?restq6
 case hyq6=>intro w hSw;(try dsimp only at hSw);go_simp;(try with_reducible rfl)
 (try simp only [aP])
 refine tkF 6 36 ?vq7 rfl (by kernel_rfl) (fun _ _ _ h=>h) (Or.inl ⟨by kernel_rfl,?hyq7⟩) (fun _=>hS0) ?restq7
 case hyq7=>intro w hSw;clear hSw;go_simp;(try with_reducible rfl)
 (try simp only [aP])
 refine tkF 7 37 ?vq8 rfl (by kernel_rfl) (fun _ _ _ h=>h) (Or.inl ⟨by kernel_rfl,?hyq8⟩) (fun _=>hS0) ?restq8
 case hyq8=>intro w hSw;clear hSw;go_simp;(try with_reducible rfl)
 (try simp only [aP])
 refine tkF 8 38 ?vq9 rfl (by kernel_rfl) (fun _ _ _ h=>h) (Or.inl ⟨by kernel_rfl,?hyq9⟩) (fun _=>hS0) ?restq9
 case hyq9=>intro w hSw;clear hSw;go_simp;(try with_reducible rfl)
 (try simp only [aP])
 refine tkF 9 39 ?vq10 rfl (by kernel_rfl) (fun _ _ _ h=>h) (Or.inl ⟨by kernel_rfl,?hyq10⟩) (fun _=>hS0) ?restq10
 case hyq10=>intro w hSw;clear hSw;go_simp;(try with_reducible rfl)
 (try simp only [aP])
 refine tkU [14] 10 40 ?vq11 rfl (by kernel_rfl) (fun _ _ _ h=>h) (Or.inl ⟨by kernel_rfl,?hyq11⟩) hS0 ?restq11
 case hyq11=>intro w hSw;(try dsimp only at hSw);go_simp;(try with_reducible rfl)
 (try simp only [aP])
 refine tkF 11 41 ?vq12 rfl (by kernel_rfl) (fun _ _ _ h=>h) (Or.inl ⟨by kernel_rfl,?hyq12⟩) (fun _=>hS0) ?restq12
 case hyq12=>intro w hSw;clear hSw;go_simp;(try with_reducible rfl)
 (try simp only [aP])
 refine tkF 12 42 ?vq13 rfl (by kernel_rfl) (fun _ _ _ h=>h) (Or.inl ⟨by kernel_rfl,?hyq13⟩) (fun _=>hS0) ?restq13
 case hyq13=>intro w hSw;clear hSw;go_simp;(try with_reducible rfl)
 (try simp only [aP])
 refine tkF 13 43 ?vq14 rfl (by kernel_rfl) (fun _ _ _ h=>h) (Or.inl ⟨by kernel_rfl,?hyq14⟩) (fun _=>hS0) ?restq14
 case hyq14=>intro w hSw;clear hSw;go_simp;(try with_reducible rfl)
 (try simp only [aP])
 have c8:=hS0.1
 refine wpAnyU_ready (rs:=[14]) (by kernel_rfl) (by simp) ?_
 refine AllReadyU.cons (o:=⟨none,_,_,_,_,_⟩) rfl (fun K hK=>?_) AllReadyU.nil
 go_simp
 refine hK.out _ _ (fun h=>Bool.noConfusion (h.symm.trans (by kernel_rfl:_=false))) ?_
 clear hK K c8 z8
 (try simp only [aP])
 refine tkF 15 44 ?vq15 rfl (by kernel_rfl) (fun _ _ _ h=>h) (Or.inl ⟨by kernel_rfl,?hyq15⟩) (fun h=>Bool.noConfusion (h.symm.trans (by kernel_rfl:_=false))) ?restq15
 case hyq15=>intro w hSw;clear hSw;go_simp;(try with_reducible rfl)
 (try simp only [aP])
 refine tkF 16 45 ?vq16 rfl (by kernel_rfl) (fun _ _ _ h=>h) (Or.inl ⟨by kernel_rfl,?hyq16⟩) (fun h=>Bool.noConfusion (h.symm.trans (by kernel_rfl:_=false))) ?restq16
 case hyq16=>intro w hSw;clear hSw;go_simp;(try with_reducible rfl)
 (try simp only [aP])
 have c9:=HM1.out.cells.2.2.2.2.2.2.2.2.2.1
 have z9:=HM1.out.cells.2.2.2.2.2.2.2.2.2.2.2 9
 refine wpAnyU_ready (rs:=[17]) (by kernel_rfl) (by simp) ?_
 refine AllReadyU.cons (o:=⟨none,_,_,_,_,_⟩) rfl (fun K hK=>?_) AllReadyU.nil
 go_simp
 refine hK.out _ _ (fun h=>Bool.noConfusion (h.symm.trans (by kernel_rfl:_=false))) ?_
 clear hK K c9 z9
 (try simp only [aP])
 refine wpAnyU_done (by kernel_rfl) ?_ _
 generalize (wd.setCell ⟨E.g,8,none⟩ (.slice po M.length (oc-1))).setCell ⟨E.g,9,none⟩ (.slice pf M.length (fc-1))=W7 at *
 obtain ⟨c0,c1,c2,c3,c4,c5,c6,c7,c8,c9,c10,cz⟩:=HM2.out.cells
 have z10:=cz 10
 clear c0 c2 c3 c4 c5 c6 c7 c9 cz
 go_wp2_with fail
 exact HX.out
end Go.Proofs.YtmklemelgdilkaaGreatDoor
