/- A method's own memory: below a mark nothing turns but one block (the struct's); rows of the method's own lie above the mark. -/
import Derived.Test.YtfalelkfhandfaaGreatDoorAppEqMs
import Derived.Test.YtfalelkfhandfaaGreatDoorRuleVMs
import Derived.Test.YtfalelkfhandfaaGreatDoorSwapPMs
import Derived.Test.YtfalelkfhandfaaGreatDoorStepPMs
import Derived.Test.YtfalelkfhandfaaGreatDoorGuardPMs
namespace Go.Proofs.YtfalelkfhandfaaGreatDoor
set_option linter.all false
open Go Go.RowKit

structure KpM (B g:Nat) (W W':World):Prop where
 os:W'.os=W.os
 tape:W'.tape=W.tape
 output:W'.output=W.output
 size:W.heap.size≤W'.heap.size
 low:∀ k,k<B→k≠g→W'.heap[k]?=W.heap[k]?
theorem KpM.refl (B g:Nat) (W:World):KpM B g W W:=⟨rfl,rfl,rfl,Nat.le_refl _,fun _ _ _=>rfl⟩
theorem KpM.trans {B g:Nat} {a b c:World} (h:KpM B g a b) (k:KpM B g b c):KpM B g a c :=
 ⟨k.os.trans h.os,k.tape.trans h.tape,k.output.trans h.output,Nat.le_trans h.size k.size,fun i h1 h2=>(k.low i h1 h2).trans (h.low i h1 h2)⟩
theorem KpM.of_below {B g:Nat} {W W':World} (hB:B≤W.heap.size) (h:Below W.heap.size W W'):KpM B g W W':=⟨h.os,h.tape,h.output,h.size,fun k hk _=>h.block k (by omega)⟩
theorem KpM.drewN {B g:Nat} {a W:World} (h:KpM B g a W) (n:Nat):KpM B g a (W.drewN n):=⟨h.os,h.tape,h.output,h.size,h.low⟩
theorem KpM.drew {B g:Nat} {a W:World} (h:KpM B g a W):KpM B g a W.drew:=⟨h.os,h.tape,h.output,h.size,h.low⟩
theorem KpM.alloc {B g:Nat} {a W:World} (h:KpM B g a W) (hB:B≤W.heap.size) (o:Obj):KpM B g a (W.alloc o):=h.trans (KpM.of_below hB ((Below.refl _ _).alloc (Nat.le_refl _) o))
theorem KpM.setG {B g:Nat} {a W:World} (h:KpM B g a W) (j:Nat) (v:Value):KpM B g a (W.setCell ⟨g,j,none⟩ v) :=
 ⟨h.os,h.tape,h.output,by have:=h.size;simpa using this,fun k h1 h2=>by rw [heap_setCell_other _ _ _ _ h2];exact h.low k h1 h2⟩
theorem KpM.setO {B g:Nat} {a W:World} (h:KpM B g a W) {b:Nat} (hb:B≤b) (j:Nat) (v:Value):KpM B g a (W.setCell ⟨b,j,none⟩ v) :=
 ⟨h.os,h.tape,h.output,by have:=h.size;simpa using this,fun k h1 h2=>by rw [heap_setCell_other _ _ _ _ (show k≠b by omega)];exact h.low k h1 h2⟩
theorem KpM.grown {B g:Nat} {a W W':World} (h:KpM B g a W) {e:TypeId} {size n:Nat} {v:Value} {xs:List Value} (ho:W.ownsRow B e size v n xs) (hB:B≤W.heap.size) (hg:W.grownBy W' v.ownBlock):KpM B g a W' :=
 ⟨hg.os.trans h.os,hg.tape.trans h.tape,hg.output.trans h.output,Nat.le_trans h.size hg.size,fun k h1 h2=>(hg.block k (by omega) (fun e=>by have:=(ho.lt k e.symm).1;omega)).trans (h.low k h1 h2)⟩
theorem KpM.cell {B g:Nat} {W W':World} (h:KpM B g W W') {b o:Nat} (hb:b<B) (hg:b≠g):W'.cell? ⟨b,o,none⟩=W.cell? ⟨b,o,none⟩:=by
 simp only [World.cell?,h.low b hb hg]
theorem KpM.row {B g:Nat} {W W':World} (h:KpM B g W W') (hB:B≤W.heap.size) {v:Value} {n sz:Nat} {cs:List Value} (hr:Row W v n sz cs) (hv:∀ b,v.ownBlock=some b→b<B∧b≠g):Row W' v n sz cs:=by
 obtain ⟨h1,a,cap,e,hc,hz,h2⟩:=hr
 refine ⟨h1,a,cap,e,hc,hz,fun hn=>?_⟩
 obtain ⟨b,off,ha,hlt,hcell⟩:=h2 hn
 subst ha
 obtain ⟨k1,k2⟩:=hv b (by rw [e];rfl)
 refine ⟨b,off,rfl,by have:=h.size;omega,fun i hi=>?_⟩
 rw [← hcell i hi]
 exact h.cell k1 k2
theorem KpM.below {B g:Nat} {w W W':World} (h:KpM B g W W') (hw:Below w.heap.size w W) (hB:w.heap.size≤B) (hg:w.heap.size≤g):Below w.heap.size w W' :=
 ⟨h.os.trans hw.os,h.tape.trans hw.tape,h.output.trans hw.output,Nat.le_trans hw.size h.size,fun k hk=>(h.low k (by omega) (by omega)).trans (hw.block k hk)⟩
end Go.Proofs.YtfalelkfhandfaaGreatDoor
namespace Go.Proofs.YtfalelkfhandfaaGreatDoor
set_option linter.all false
open Go.RowKit

theorem zGv {w:World} {b o:Nat} {v:Value} (h:w.cell? ⟨b,o,none⟩=some v):b<w.heap.size:=by
 apply Classical.byContradiction
 intro hn
 unfold World.cell? at h
 rw [Array.getElem?_eq_none (by simpa using hn)] at h
 cases h
theorem zDa {w w':World} {b o:Nat} (h:w'.heap[b]?=w.heap[b]?):w'.cell? ⟨b,o,none⟩=w.cell? ⟨b,o,none⟩:=by
 unfold World.cell?
 simp only [h]
theorem xK {w w':World} {B B2:Nat} {e e2:TypeId} {size n size2 n2:Nat} {v v2:Value} {xs xs2:List Value} (h:w.ownsRow B e size v n xs) (hg:w.grownBy w' v.ownBlock) (h2:w.ownsRow B2 e2 size2 v2 n2 xs2) (ht:e2≠e):w'.ownsRow B2 e2 size2 v2 n2 xs2:=by
 obtain ⟨g1,g2⟩:=h2
 refine ⟨g1,?_⟩
 rcases g2 with g2 | ⟨k,cap,cur,hv,hk,hh,r⟩
 ·exact Or.inl g2
 ·refine Or.inr ⟨k,cap,cur,hv,hk,?_,r⟩
  rw [hg.block k (zP hh) ?_,hh]
  intro e1
  rcases h.2 with ⟨rfl,_⟩ | ⟨k1,cap1,cur1,rfl,_,hh1,_⟩
  ·simp [Value.ownBlock] at e1
  ·simp [Value.ownBlock] at e1
   subst e1
   rw [hh] at hh1
   cases hh1
   exact ht rfl
structure InW (w0:World) (q:Nat) (kp:Nat→Nat) (ka:Option Addr) (hk:Nat) (hw:ByteArray) (M:List PN) (ov fv:Value) (w:World):Prop where
 o:w.ownsRow w0.heap.size 38 3 ov (M.length+1) (zV ((hk,(cntP (M.map (·.1)):Int),hw)::M.map (·.1)))
 f:w.ownsRow w0.heap.size 3 1 fv (M.length+1) (intsV (-1::M.map (·.2)))
 k:∀ c,c<q→∃ g,ka=some ⟨g,0,none⟩∧ov.ownBlock≠some g∧fv.ownBlock≠some g∧w.cell? ⟨g,c,none⟩=some (.int .i64 (kp c:Int))
 b:Below w0.heap.size w0 w
theorem InW.below {w0 w w':World} {q:Nat} {kp:Nat→Nat} {ka:Option Addr} {hk:Nat} {hw:ByteArray} {M:List PN} {ov fv:Value} (h:InW w0 q kp ka hk hw M ov fv w) (hb:Below w.heap.size w w'):InW w0 q kp ka hk hw M ov fv w' :=
 ⟨zS h.o hb,zS h.f hb,fun c hc=>by
  obtain ⟨g,h1,h2,h3,h4⟩:=h.k c hc
  exact ⟨g,h1,h2,h3,by rw [hb.cell (p:=⟨g,c,none⟩) (zGv h4)];exact h4⟩,zB h.b hb⟩
theorem zFv {w:World} {B B2:Nat} {e e2:TypeId} {size n size2 n2:Nat} {v v2:Value} {xs xs2:List Value} (h:w.ownsRow B e size v n xs) (h2:w.ownsRow B2 e2 size2 v2 n2 xs2) (ht:e2≠e) {g:Nat} (hg:v.ownBlock=some g):v2.ownBlock≠some g:=by
 intro hg2
 rcases h.2 with ⟨hv,_⟩ | ⟨k,cap,cur,hv,_,hh,_⟩
 ·rw [hv] at hg;simp [Value.ownBlock] at hg
 ·rw [hv] at hg;simp [Value.ownBlock] at hg;subst hg
  rcases h2.2 with ⟨hv2,_⟩ | ⟨k2,cap2,cur2,hv2,_,hh2,_⟩
  ·rw [hv2] at hg2;simp [Value.ownBlock] at hg2
  ·rw [hv2] at hg2;simp [Value.ownBlock] at hg2;subst hg2
   rw [hh] at hh2
   simp only [Option.some.injEq,Obj.cells.injEq] at hh2
   exact ht hh2.2.1.symm
theorem zBx (xs:List Int):∀ u∈intsV xs,u.oneCell'=true:=by
 intro u hu
 unfold intsV at hu
 obtain ⟨x,_,rfl⟩:=List.mem_map.1 hu
 rfl
theorem kX (a b:List Int):intsV (a++b)=intsV a++intsV b:=by unfold intsV;rw [List.map_append]
theorem InW.step {w0 w:World} {q:Nat} {kp:Nat→Nat} {ka:Option Addr} {hk:Nat} {hw:ByteArray} {M N:List PN} {ov fv va vb:Value} (h:InW w0 q kp ka hk hw M ov fv w) {us ts:List Nat} (hu:zG (M.map (·.1))=some us) (ht:zG (N.map (·.1))=some ts) {B:Nat}
  (ha:w.ownsRow B 38 3 va N.length (zV (N.map (·.1)))) (hb:w.ownsRow B 3 1 vb N.length (intsV (N.map (·.2)))) (hB:∀ g,ov.ownBlock=some g→g<B) (hB2:∀ g,fv.ownBlock=some g→g<B) (hlen:M.length+N.length≤1000000000) :
  ∃ g cap w8 w9 v8 v9,ov=.slice (some ⟨g,0,none⟩) (M.length+1) cap∧M.length+1≤cap∧w.cell? ⟨g,1,none⟩=some (.int .i64 (us.length:Int))∧w.frozen? ⟨g,1,none⟩=false ∧
   (Builtin.append_ #[23,23] 23 #[ov,va]).run Tryz.prog (w.setCell ⟨g,1,none⟩ (.int .i64 ((us.length:Int)+ts.length)))=.ok v8 w8 ∧
   (Builtin.append_ #[27,27] 27 #[fv,vb]).run Tryz.prog w8=.ok v9 w9∧InW w0 q kp ka hk hw (M++N) v8 v9 w9:=by
 have hc1:cntP (M.map (·.1))=us.length:=fK hu
 have hc2:cntP ((M++N).map (·.1))=us.length+ts.length:=by rw [List.map_append];exact zWe hu ht
 have hoo:=h.o
 rcases hoo.2 with ⟨_,h0⟩ | ⟨g,cap,cur,hv,hg,hh,hnc,hcm,hcs,htk⟩
 ·omega
 subst hv
 have hog:(Value.slice (some ⟨g,0,none⟩) (M.length+1) cap).ownBlock=some g:=rfl
 have hc:w.cell? ⟨g,1,none⟩=some (.int .i64 (us.length:Int)):=by
  rw [hoo.cellAt 1 (by omega),hc1]
  rfl
 have hz:w.frozen? ⟨g,1,none⟩=false:=by simp [World.frozen?,hh]
 have o7:=zCv hoo 1 (by rw [yF,List.length_cons];omega) (.int .i64 ((us.length:Int)+ts.length))
 have e7:(zV ((hk,(cntP (M.map (·.1)):Int),hw)::M.map (·.1))).set 1 (.int .i64 ((us.length:Int)+ts.length))=zV ((hk,(us.length:Int)+ts.length,hw)::M.map (·.1)):=rfl
 rw [e7] at o7
 have n1:va.ownBlock≠some g:=fun e=>by
  have h1:=(ha.lt g e).1
  have h2:=hB g hog
  omega
 have n2:=zFv hoo h.f (by decide) hog
 have n3:=zFv hoo hb (by decide) hog
 have a7:=ownsRow_setCell_other ha (a:=⟨g,1,none⟩) n1 (.int .i64 ((us.length:Int)+ts.length))
 have f7:=ownsRow_setCell_other h.f (a:=⟨g,1,none⟩) n2 (.int .i64 ((us.length:Int)+ts.length))
 have b7:=ownsRow_setCell_other hb (a:=⟨g,1,none⟩) n3 (.int .i64 ((us.length:Int)+ts.length))
 have w7b:=h.b.setCell (p:=⟨g,1,none⟩) hg (.int .i64 ((us.length:Int)+ts.length))
 have k7:∀ c,c<q→∃ g',ka=some ⟨g',0,none⟩∧g'≠g∧fv.ownBlock≠some g'∧(w.setCell ⟨g,1,none⟩ (.int .i64 ((us.length:Int)+ts.length))).cell? ⟨g',c,none⟩=some (.int .i64 (kp c:Int)):=fun c hc=>by
  obtain ⟨g',h1,h2,h3,h4⟩:=h.k c hc
  have hne:g'≠g:=fun e=>h2 (by rw [e];rfl)
  exact ⟨g',h1,hne,h3,by rw [World.cell?_setCell_other (h:=fun e=>hne (congrArg Addr.block e).symm)];exact h4⟩
 generalize hW7:w.setCell ⟨g,1,none⟩ (.int .i64 ((us.length:Int)+ts.length))=w7 at *
 obtain ⟨v8,w8,r8,o8,g8,p8⟩:=vV (P:=Tryz.prog) w7 23 23 38 Tryz.underlying23 w0.heap.size kD rfl (by decide) _ (M.length+1) _ o7 va N.length (zV (N.map (·.1))) (Row.of_owns a7) (fC _) (by omega) (by omega) w7b.size
 have f8:=xK o7 g8 f7 (by decide)
 have b8:=xK o7 g8 b7 (by decide)
 have w8b:=kJ w7b w7b.size o7 g8
 obtain ⟨v9,w9,r9,f9,g9,p9⟩:=vV (P:=Tryz.prog) w8 27 27 3 Tryz.underlying27 w0.heap.size xY rfl (by decide) fv (M.length+1) _ f8 vb N.length (intsV (N.map (·.2))) (Row.of_owns b8) (zBx _) (by omega) (by omega) w8b.size
 have o9:=xK f8 g9 o8 (by decide)
 have w9b:=kJ w8b w8b.size f8 g9
 refine ⟨g,cap,w8,w9,v8,v9,rfl,hnc,hc,hz,by rw [hW7];exact r8,r9,⟨?_,?_,fun c hc=>?_,w9b⟩⟩
 ·rw [hc2]
  rw [List.map_append,List.length_append,show M.length+N.length+1=M.length+1+N.length by omega,← List.cons_append,yK]
  push_cast
  exact o9
 ·rw [List.map_append,List.length_append,show M.length+N.length+1=M.length+1+N.length by omega,← List.cons_append,kX]
  exact f9
 ·obtain ⟨g',h1,h2,h3,h4⟩:=k7 c hc
  have l7:=zGv h4
  have e8:w8.cell? ⟨g',c,none⟩=some (.int .i64 (kp c:Int)):=by
   have:=g8.block g' l7 (fun e=>h2 (by rw [hog] at e;exact (Option.some.inj e)))
   rw [zDa this];exact h4
  have l8:=zGv e8
  have e9:w9.cell? ⟨g',c,none⟩=some (.int .i64 (kp c:Int)):=by
   have:=g9.block g' l8 (fun e=>h3 e.symm)
   rw [zDa this];exact e8
  refine ⟨g',h1,?_,?_,e9⟩
  ·rcases p8 with e | e
   ·rw [e,hog];exact fun e2=>h2 (Option.some.inj e2).symm
   ·rw [e];exact fun e2=>by have:=Option.some.inj e2;omega
  ·rcases p9 with e | e
   ·rw [e];exact h3
   ·rw [e];exact fun e2=>by have:=Option.some.inj e2;omega
end Go.Proofs.YtfalelkfhandfaaGreatDoor
namespace Go.Proofs.YtfalelkfhandfaaGreatDoor
set_option linter.all false
open Go Go.RowKit

structure MkE where
 r:RuleM
 l:List Prt
 bs:List Bnd
 g:Nat
 B:Nat
 T:TypeId
 vh:Value
 vf:Value
 vy:Value
 vl:Value
 ve:Value
 vb:Value
def mkB (E:MkE) (ov fv:Value) (lg:Bool) (W:World):Prop:=W.heap[E.g]?=some (.cells #[.string E.r.nm,.int .u8 (E.r.goal:Int),E.vh,E.vf,E.vy,E.vl,E.ve,E.vb,ov,fv,.bool lg] E.T (0,0))
theorem mkB.cells {E:MkE} {ov fv:Value} {lg:Bool} {W:World} (h:mkB E ov fv lg W):W.cell? ⟨E.g,0,none⟩=some (.string E.r.nm)∧W.cell? ⟨E.g,1,none⟩=some (.int .u8 (E.r.goal:Int))∧W.cell? ⟨E.g,2,none⟩=some E.vh∧W.cell? ⟨E.g,3,none⟩=some E.vf∧W.cell? ⟨E.g,4,none⟩=some E.vy∧W.cell? ⟨E.g,5,none⟩=some E.vl∧W.cell? ⟨E.g,6,none⟩=some E.ve∧W.cell? ⟨E.g,7,none⟩=some E.vb∧W.cell? ⟨E.g,8,none⟩=some ov∧W.cell? ⟨E.g,9,none⟩=some fv∧W.cell? ⟨E.g,10,none⟩=some (.bool lg)∧∀ j,W.frozen? ⟨E.g,j,none⟩=false:=by
 unfold mkB at h
 simp [World.cell?,World.frozen?,h]
structure MkIn (w0:World) (E:MkE) (out:List PN) (lg:Bool) (ov fv:Value) (W:World):Prop where
 b:Below w0.heap.size w0 W
 s:mkB E ov fv lg W
 o:W.ownsRow E.B 38 3 ov out.length (zV (out.map (·.1)))
 f:W.ownsRow E.B 3 1 fv out.length (intsV (out.map (·.2)))
 g0:w0.heap.size≤E.g
 gB:E.g<E.B
 B:E.B≤W.heap.size
theorem MkIn.below {w0 W W':World} {E:MkE} {out:List PN} {lg:Bool} {ov fv:Value} (h:MkIn w0 E out lg ov fv W) (hb:Below W.heap.size W W'):MkIn w0 E out lg ov fv W' :=
 ⟨zB h.b hb,keeps hb h.s,zS h.o hb,zS h.f hb,h.g0,h.gB,by have:=h.B;have:=hb.size;omega⟩
theorem mkB.set {E:MkE} {ov fv:Value} {lg:Bool} {W:World} (h:mkB E ov fv lg W):(∀ v,mkB E v fv lg (W.setCell ⟨E.g,8,none⟩ v))∧(∀ v,mkB E ov v lg (W.setCell ⟨E.g,9,none⟩ v))∧(∀ b,mkB E ov fv b (W.setCell ⟨E.g,10,none⟩ (.bool b))):=by
 unfold mkB at *
 refine ⟨fun v=>?_,fun v=>?_,fun b=>?_⟩
 ·exact heap_setCell_same W E.g 8 _ _ v h
 ·exact heap_setCell_same W E.g 9 _ _ v h
 ·exact heap_setCell_same W E.g 10 _ _ (.bool b) h
theorem kH {W:World} {B g:Nat} {e:TypeId} {size n:Nat} {v:Value} {xs:List Value} (h:W.ownsRow B e size v n xs) (hg:g<B) (j:Nat) (u:Value):(W.setCell ⟨g,j,none⟩ u).ownsRow B e size v n xs :=
 ownsRow_setCell_other h (a:=⟨g,j,none⟩) (fun e=>by have:=(h.lt g e).1;omega) u
theorem MkIn.long {w0 W:World} {E:MkE} {out:List PN} {lg:Bool} {ov fv:Value} (h:MkIn w0 E out lg ov fv W) (b:Bool):MkIn w0 E out b ov fv (W.setCell ⟨E.g,10,none⟩ (.bool b))∧KpM E.B E.g W (W.setCell ⟨E.g,10,none⟩ (.bool b)) :=
 ⟨⟨h.b.setCell (p:=⟨E.g,10,none⟩) h.g0 _,h.s.set.2.2 b,kH h.o h.gB _ _,kH h.f h.gB _ _,h.g0,h.gB,by simpa using h.B⟩,(KpM.refl _ _ _).setG _ _⟩
theorem MkIn.app {w0 W:World} {E:MkE} {out:List PN} {lg:Bool} {ov fv:Value} (h:MkIn w0 E out lg ov fv W) (x:PN) (C1 C2:Array Value) (hC1:C1=#[.int .u8 (x.1.1:Int),.int .i64 x.1.2.1,.string x.1.2.2]) (hC2:C2=#[.int .i64 x.2]) (hn:out.length≤1000000) :
  ∃ v1 w1 v2 w2,(Builtin.append_ #[23,23] 23 #[ov,.slice (some ⟨W.heap.size,0,none⟩) 1 1]).run Tryz.prog (W.alloc (.cells C1 38))=.ok v1 w1 ∧
   (Builtin.append_ #[27,27] 27 #[fv,.slice (some ⟨w1.heap.size,0,none⟩) 1 1]).run Tryz.prog (w1.alloc (.cells C2 3))=.ok v2 w2 ∧
   MkIn w0 E (out++[x]) lg v1 v2 ((w2.setCell ⟨E.g,8,none⟩ v1).setCell ⟨E.g,9,none⟩ v2)∧KpM E.B E.g W ((w2.setCell ⟨E.g,8,none⟩ v1).setCell ⟨E.g,9,none⟩ v2)∧mkB E ov fv lg w2∧mkB E v1 fv lg (w2.setCell ⟨E.g,8,none⟩ v1):=by
 subst hC1 hC2
 have hBs:=h.B
 obtain ⟨v1,w1,r1,o1,g1,_⟩:=vF (P:=Tryz.prog) W #[.int .u8 (x.1.1:Int),.int .i64 x.1.2.1,.string x.1.2.2] 38 23 23 38 Tryz.underlying23 E.B kD rfl (by decide) ov out.length _ h.o 1 1 rfl (Nat.le_refl _) (by intro u hu;simp at hu;rcases hu with rfl | rfl | rfl <;> rfl) (by omega) (by omega) hBs
 have k0:=(KpM.refl E.B E.g W).alloc hBs (.cells #[.int .u8 (x.1.1:Int),.int .i64 x.1.2.1,.string x.1.2.2] 38)
 have oa:=h.o.alloc (.cells #[.int .u8 (x.1.1:Int),.int .i64 x.1.2.1,.string x.1.2.2] 38)
 have hBa:E.B≤(W.alloc (.cells #[.int .u8 (x.1.1:Int),.int .i64 x.1.2.1,.string x.1.2.2] 38)).heap.size:=by simp;omega
 have k1:=k0.grown oa hBa g1
 have f1:=xK oa g1 (h.f.alloc (.cells #[.int .u8 (x.1.1:Int),.int .i64 x.1.2.1,.string x.1.2.2] 38)) (by decide)
 have hB1:E.B≤w1.heap.size:=by have:=k1.size;omega
 obtain ⟨v2,w2,r2,f2,g2,_⟩:=vF (P:=Tryz.prog) w1 #[.int .i64 x.2] 3 27 27 3 Tryz.underlying27 E.B xY rfl (by decide) fv out.length _ f1 1 1 rfl (Nat.le_refl _) (by intro u hu;simp at hu;subst hu;rfl) (by omega) (by omega) hB1
 have k2a:=k1.alloc hB1 (.cells #[.int .i64 x.2] 3)
 have hB1a:E.B≤(w1.alloc (.cells #[.int .i64 x.2] 3)).heap.size:=by simp;omega
 have fa:=f1.alloc (.cells #[.int .i64 x.2] 3)
 have k2:=k2a.grown fa hB1a g2
 have o2:=xK fa g2 (o1.alloc (.cells #[.int .i64 x.2] 3)) (by decide)
 have hB2:E.B≤w2.heap.size:=by have:=k2.size;omega
 have hgl:=zP h.s
 have s2:mkB E ov fv lg w2:=by
  unfold mkB
  have e1:w1.heap[E.g]?=W.heap[E.g]?:=by
   rw [g1.block E.g (by simp;omega) (fun e=>by have:=(oa.lt E.g e.symm).1;have:=h.gB;omega),Below.heap_alloc _ _ _ hgl]
  have hl1:E.g<w1.heap.size:=by have:=h.gB;omega
  rw [g2.block E.g (by simp;omega) (fun e=>by have:=(fa.lt E.g e.symm).1;have:=h.gB;omega),Below.heap_alloc _ _ _ hl1,e1]
  exact h.s
 have s3:=s2.set.1 v1
 have s4:=s3.set.2.1 v2
 have hb2:Below w0.heap.size w0 w2:=k2.below h.b (by have:=h.g0;have:=h.gB;omega) h.g0
 refine ⟨v1,w1,v2,w2,r1,r2,⟨(hb2.setCell (p:=⟨E.g,8,none⟩) h.g0 _).setCell (p:=⟨E.g,9,none⟩) h.g0 _,s4,?_,?_,h.g0,h.gB,by simpa using hB2⟩,(k2.setG 8 v1).setG 9 v2,s2,s3⟩
 ·rw [List.length_append,List.map_append,yK]
  exact kH (kH o2 h.gB _ _) h.gB _ _
 ·rw [List.length_append,List.map_append,kX]
  exact kH (kH f2 h.gB _ _) h.gB _ _
end Go.Proofs.YtfalelkfhandfaaGreatDoor
namespace Go.Proofs.YtfalelkfhandfaaGreatDoor
set_option linter.all false
open Go Go.RowKit

structure CpE where
 l:List Prt
 fr:List Int
 g:Nat
 B:Nat
 T:TypeId
 vl:Value
 vf:Value
def cpB (E:CpE) (ov nv:Value) (i:Nat) (W:World):Prop:=W.heap[E.g]?=some (.cells #[E.vl,E.vf,ov,nv,.int .i64 (i:Int)] E.T (0,0))
theorem cpB.cells {E:CpE} {ov nv:Value} {i:Nat} {W:World} (h:cpB E ov nv i W):W.cell? ⟨E.g,0,none⟩=some E.vl∧W.cell? ⟨E.g,1,none⟩=some E.vf∧W.cell? ⟨E.g,2,none⟩=some ov∧W.cell? ⟨E.g,3,none⟩=some nv∧W.cell? ⟨E.g,4,none⟩=some (.int .i64 (i:Int))∧∀ j,W.frozen? ⟨E.g,j,none⟩=false:=by
 unfold cpB at h
 simp [World.cell?,World.frozen?,h]
theorem cpB.set {E:CpE} {ov nv:Value} {i:Nat} {W:World} (h:cpB E ov nv i W):(∀ v,cpB E v nv i (W.setCell ⟨E.g,2,none⟩ v))∧(∀ v,cpB E ov v i (W.setCell ⟨E.g,3,none⟩ v))∧(∀ j:Nat,cpB E ov nv j (W.setCell ⟨E.g,4,none⟩ (.int .i64 (j:Int)))):=by
 unfold cpB at *
 refine ⟨fun v=>?_,fun v=>?_,fun j=>?_⟩
 ·exact heap_setCell_same W E.g 2 _ _ v h
 ·exact heap_setCell_same W E.g 3 _ _ v h
 ·exact heap_setCell_same W E.g 4 _ _ (.int .i64 (j:Int)) h
structure CpIn (w0:World) (E:CpE) (out:List Prt) (ns:List Int) (i:Nat) (ov nv:Value) (W:World):Prop where
 b:Below w0.heap.size w0 W
 s:cpB E ov nv i W
 o:W.ownsRow E.B 38 3 ov out.length (zV out)
 f:W.ownsRow E.B 3 1 nv ns.length (intsV ns)
 g0:w0.heap.size≤E.g
 gB:E.g<E.B
 B:E.B≤W.heap.size
theorem CpIn.below {w0 W W':World} {E:CpE} {out:List Prt} {ns:List Int} {i:Nat} {ov nv:Value} (h:CpIn w0 E out ns i ov nv W) (hb:Below W.heap.size W W'):CpIn w0 E out ns i ov nv W' :=
 ⟨zB h.b hb,keeps hb h.s,zS h.o hb,zS h.f hb,h.g0,h.gB,by have:=h.B;have:=hb.size;omega⟩
theorem ownsG {W:World} {B g:Nat} {e:TypeId} {size n:Nat} {v:Value} {xs:List Value} (h:W.ownsRow B e size v n xs) (hg:g<B) (j:Nat) (u:Value):(W.setCell ⟨g,j,none⟩ u).ownsRow B e size v n xs :=
 ownsRow_setCell_other h (a:=⟨g,j,none⟩) (fun e=>by have:=(h.lt g e).1;omega) u
theorem CpIn.step {w0 W:World} {E:CpE} {out:List Prt} {ns:List Int} {i:Nat} {ov nv:Value} (h:CpIn w0 E out ns i ov nv W) (j:Nat):CpIn w0 E out ns j ov nv (W.setCell ⟨E.g,4,none⟩ (.int .i64 (j:Int))) :=
 ⟨h.b.setCell (p:=⟨E.g,4,none⟩) h.g0 _,h.s.set.2.2 j,ownsG h.o h.gB _ _,ownsG h.f h.gB _ _,h.g0,h.gB,by simpa using h.B⟩
structure KpC (g:Nat) (ov nv ov' nv':Value) (W W':World):Prop where
 os:W'.os=W.os
 tape:W'.tape=W.tape
 output:W'.output=W.output
 size:W.heap.size≤W'.heap.size
 low:∀ k,k<W.heap.size→k≠g→ov.ownBlock≠some k→nv.ownBlock≠some k→W'.heap[k]?=W.heap[k]?
 no:∀ k,ov'.ownBlock=some k→ov.ownBlock=some k∨W.heap.size≤k
 nn:∀ k,nv'.ownBlock=some k→nv.ownBlock=some k∨W.heap.size≤k
theorem KpC.refl (g:Nat) (ov nv:Value) (W:World):KpC g ov nv ov nv W W:=⟨rfl,rfl,rfl,Nat.le_refl _,fun _ _ _ _ _=>rfl,fun _ h=>Or.inl h,fun _ h=>Or.inl h⟩
theorem KpC.trans {g:Nat} {o1 n1 o2 n2 o3 n3:Value} {a b c:World} (h:KpC g o1 n1 o2 n2 a b) (k:KpC g o2 n2 o3 n3 b c):KpC g o1 n1 o3 n3 a c :=
 ⟨k.os.trans h.os,k.tape.trans h.tape,k.output.trans h.output,Nat.le_trans h.size k.size,fun i h1 h2 h3 h4=>(k.low i (Nat.lt_of_lt_of_le h1 h.size) h2 (fun e=>by
   rcases h.no i e with e | e
   ·exact h3 e
   ·omega) (fun e=>by
   rcases h.nn i e with e | e
   ·exact h4 e
   ·omega)).trans (h.low i h1 h2 h3 h4),fun i e=>by
   rcases k.no i e with e | e
   ·exact h.no i e
   ·exact Or.inr (Nat.le_trans h.size e),fun i e=>by
   rcases k.nn i e with e | e
   ·exact h.nn i e
   ·exact Or.inr (Nat.le_trans h.size e)⟩
theorem KpC.of_below {g:Nat} {ov nv:Value} {W W':World} (h:Below W.heap.size W W'):KpC g ov nv ov nv W W':=⟨h.os,h.tape,h.output,h.size,fun k hk _ _ _=>h.block k hk,fun _ e=>Or.inl e,fun _ e=>Or.inl e⟩
theorem KpC.setG {g:Nat} {o1 n1 o2 n2:Value} {a W:World} (h:KpC g o1 n1 o2 n2 a W) (j:Nat) (v:Value):KpC g o1 n1 o2 n2 a (W.setCell ⟨g,j,none⟩ v) :=
 ⟨h.os,h.tape,h.output,by have:=h.size;simpa using this,fun k h1 h2 h3 h4=>by rw [heap_setCell_other _ _ _ _ h2];exact h.low k h1 h2 h3 h4,h.no,h.nn⟩
theorem KpC.cell {g:Nat} {ov nv ov' nv':Value} {W W':World} (h:KpC g ov nv ov' nv' W W') {k o:Nat} (hk:k<W.heap.size) (h1:k≠g) (h2:ov.ownBlock≠some k) (h3:nv.ownBlock≠some k):W'.cell? ⟨k,o,none⟩=W.cell? ⟨k,o,none⟩:=by
 simp only [World.cell?,h.low k hk h1 h2 h3]
theorem CpIn.part {w0 W:World} {E:CpE} {out:List Prt} {ns:List Int} {i:Nat} {ov nv:Value} (h:CpIn w0 E out ns i ov nv W) (p:Prt) (hn:out.length≤1000000000) :
  ∃ v1 w1,(Builtin.append_ #[23,23] 23 #[ov,.slice (some ⟨W.heap.size,0,none⟩) 1 1]).run Tryz.prog (W.alloc (.cells #[.int .u8 (p.1:Int),.int .i64 p.2.1,.string p.2.2] 38))=.ok v1 w1∧cpB E ov nv i w1∧CpIn w0 E (out++[p]) ns i v1 nv (w1.setCell ⟨E.g,2,none⟩ v1)∧KpC E.g ov nv v1 nv W (w1.setCell ⟨E.g,2,none⟩ v1):=by
 have hBs:=h.B
 obtain ⟨v1,w1,r1,o1,g1,p1⟩:=vF (P:=Tryz.prog) W #[.int .u8 (p.1:Int),.int .i64 p.2.1,.string p.2.2] 38 23 23 38 Tryz.underlying23 E.B kD rfl (by decide) ov out.length _ h.o 1 1 rfl (Nat.le_refl _) (by intro u hu;simp at hu;rcases hu with rfl | rfl | rfl <;> rfl) (by omega) (by omega) hBs
 have oa:=h.o.alloc (.cells #[.int .u8 (p.1:Int),.int .i64 p.2.1,.string p.2.2] 38)
 have hBa:E.B≤(W.alloc (.cells #[.int .u8 (p.1:Int),.int .i64 p.2.1,.string p.2.2] 38)).heap.size:=by simp;omega
 have k1:=((KpM.refl E.B E.g W).alloc hBs (.cells #[.int .u8 (p.1:Int),.int .i64 p.2.1,.string p.2.2] 38)).grown oa hBa g1
 have f1:=xK oa g1 (h.f.alloc (.cells #[.int .u8 (p.1:Int),.int .i64 p.2.1,.string p.2.2] 38)) (by decide)
 have hgl:=zP h.s
 have s1:cpB E ov nv i w1:=by
  unfold cpB
  rw [g1.block E.g (by simp;omega) (fun e=>by have:=(oa.lt E.g e.symm).1;have:=h.gB;omega),Below.heap_alloc _ _ _ hgl]
  exact h.s
 have hb1:Below w0.heap.size w0 w1:=k1.below h.b (by have:=h.g0;have:=h.gB;omega) h.g0
 have kc:KpC E.g ov nv v1 nv W w1:=⟨g1.os,g1.tape,g1.output,k1.size,fun k h1 h2 h3 _=>by rw [g1.block k (by simp;omega) (fun e=>h3 e.symm),Below.heap_alloc _ _ _ h1],fun k e=>by
  rcases p1 with q | q
  ·exact Or.inl (q ▸ e)
  ·rw [q] at e;have:=Option.some.inj e;exact Or.inr (by omega),fun _ e=>Or.inl e⟩
 refine ⟨v1,w1,r1,s1,⟨hb1.setCell (p:=⟨E.g,2,none⟩) h.g0 _,s1.set.1 v1,?_,ownsG f1 h.gB _ _,h.g0,h.gB,by have:=k1.size;simp;omega⟩,kc.setG _ _⟩
 rw [List.length_append,yK]
 exact ownsG o1 h.gB _ _
theorem CpIn.num {w0 W:World} {E:CpE} {out:List Prt} {ns:List Int} {i:Nat} {ov nv:Value} (h:CpIn w0 E out ns i ov nv W) (z:Int) (hn:ns.length≤1000000000) :
  ∃ v1 w1,(Builtin.append_ #[27,27] 27 #[nv,.slice (some ⟨W.heap.size,0,none⟩) 1 1]).run Tryz.prog (W.alloc (.cells #[.int .i64 z] 3))=.ok v1 w1∧cpB E ov nv i w1∧CpIn w0 E out (ns++[z]) i ov v1 (w1.setCell ⟨E.g,3,none⟩ v1)∧KpC E.g ov nv ov v1 W (w1.setCell ⟨E.g,3,none⟩ v1):=by
 have hBs:=h.B
 obtain ⟨v1,w1,r1,f1,g1,p1⟩:=vF (P:=Tryz.prog) W #[.int .i64 z] 3 27 27 3 Tryz.underlying27 E.B xY rfl (by decide) nv ns.length _ h.f 1 1 rfl (Nat.le_refl _) (by intro u hu;simp at hu;subst hu;rfl) (by omega) (by omega) hBs
 have fa:=h.f.alloc (.cells #[.int .i64 z] 3)
 have hBa:E.B≤(W.alloc (.cells #[.int .i64 z] 3)).heap.size:=by simp;omega
 have k1:=((KpM.refl E.B E.g W).alloc hBs (.cells #[.int .i64 z] 3)).grown fa hBa g1
 have o1:=xK fa g1 (h.o.alloc (.cells #[.int .i64 z] 3)) (by decide)
 have hgl:=zP h.s
 have s1:cpB E ov nv i w1:=by
  unfold cpB
  rw [g1.block E.g (by simp;omega) (fun e=>by have:=(fa.lt E.g e.symm).1;have:=h.gB;omega),Below.heap_alloc _ _ _ hgl]
  exact h.s
 have hb1:Below w0.heap.size w0 w1:=k1.below h.b (by have:=h.g0;have:=h.gB;omega) h.g0
 have kc:KpC E.g ov nv ov v1 W w1:=⟨g1.os,g1.tape,g1.output,k1.size,fun k h1 h2 _ h3=>by rw [g1.block k (by simp;omega) (fun e=>h3 e.symm),Below.heap_alloc _ _ _ h1],fun _ e=>Or.inl e,fun k e=>by
  rcases p1 with q | q
  ·exact Or.inl (q ▸ e)
  ·rw [q] at e;have:=Option.some.inj e;exact Or.inr (by omega)⟩
 refine ⟨v1,w1,r1,s1,⟨hb1.setCell (p:=⟨E.g,3,none⟩) h.g0 _,s1.set.2.1 v1,ownsG o1 h.gB _ _,?_,h.g0,h.gB,by have:=k1.size;simp;omega⟩,kc.setG _ _⟩
 rw [List.length_append,kX]
 exact ownsG f1 h.gB _ _
end Go.Proofs.YtfalelkfhandfaaGreatDoor
namespace Go.Proofs.YtfalelkfhandfaaGreatDoor
set_option linter.all false
open Go.RowKit

structure TwoR (B:Nat) (w0:World) (A:List Prt) (F:List Int) (ov nv:Value) (W:World):Prop where
 o:W.ownsRow B 38 3 ov A.length (zV A)
 n:W.ownsRow B 3 1 nv F.length (intsV F)
 b:Below B w0 W
 B:B≤W.heap.size
section
variable {B:Nat} {w0 W:World} {A:List Prt} {F:List Int} {ov nv:Value}
theorem TwoR.below {W':World} (h:TwoR B w0 A F ov nv W) (hb:Below W.heap.size W W'):TwoR B w0 A F ov nv W' :=
 ⟨zS h.o hb,zS h.n hb,h.b.trans (hb.mono h.B),Nat.le_trans h.B hb.size⟩
theorem TwoR.start (hb:Below B w0 W) (hB:B≤W.heap.size):TwoR B w0 [] [] (.slice none 0 0) (.slice none 0 0) W :=
 ⟨World.ownsRow_nil _ _ _ _,World.ownsRow_nil _ _ _ _,hb,hB⟩
theorem yAi (p:Prt):∀ u∈zV [p],u.oneCell'=true:=by
 intro u hu
 simp [zV,partV] at hu
 rcases hu with rfl | rfl | rfl <;> rfl
theorem TwoR.pushO (h:TwoR B w0 A F ov nv W) (p:Prt) (hl:A.length≤1000000000000) :
  ∃ v' w',(Builtin.append_ #[23,23] 23 #[ov,.slice (some ⟨W.heap.size,0,none⟩) 1 1]).run Tryz.prog (W.alloc (.cells #[.int .u8 (p.1:Int),.int .i64 p.2.1,.string p.2.2] 38))=.ok v' w'∧TwoR B w0 (A++[p]) F v' nv w':=by
 obtain ⟨v',w',h1,h2,h3,_⟩:=vF (P:=Tryz.prog) W #[.int .u8 (p.1:Int),.int .i64 p.2.1,.string p.2.2] 38 23 23 38 Tryz.underlying23 B kD rfl (by decide) ov A.length (zV A) h.o 1 1 rfl (Nat.le_refl _) (yAi p) (by omega) (by omega) h.B
 have hBa:B≤(W.alloc (.cells #[.int .u8 (p.1:Int),.int .i64 p.2.1,.string p.2.2] 38)).heap.size:=by rw [World.size_alloc];have:=h.B;omega
 have hba:=h.b.alloc h.B (.cells #[.int .u8 (p.1:Int),.int .i64 p.2.1,.string p.2.2] 38)
 have hb':=kJ hba hBa (h.o.alloc _) h3
 exact ⟨v',w',h1,by rw [yK,List.length_append];exact h2,xK (h.o.alloc _) h3 (h.n.alloc _) (by decide),hb',Nat.le_trans hBa h3.size⟩
theorem TwoR.pushN (h:TwoR B w0 A F ov nv W) (z:Int) (hl:F.length≤1000000000000) :
  ∃ v' w',(Builtin.append_ #[27,27] 27 #[nv,.slice (some ⟨W.heap.size,0,none⟩) 1 1]).run Tryz.prog (W.alloc (.cells #[.int .i64 z] 3))=.ok v' w'∧TwoR B w0 A (F++[z]) ov v' w':=by
 obtain ⟨v',w',h1,h2,h3,_⟩:=vF (P:=Tryz.prog) W #[.int .i64 z] 3 27 27 3 Tryz.underlying27 B xY rfl (by decide) nv F.length (intsV F) h.n 1 1 rfl (Nat.le_refl _) (by intro u hu;simp at hu;subst hu;rfl) (by omega) (by omega) h.B
 have hBa:B≤(W.alloc (.cells #[.int .i64 z] 3)).heap.size:=by rw [World.size_alloc];have:=h.B;omega
 have hba:=h.b.alloc h.B (.cells #[.int .i64 z] 3)
 have hb':=kJ hba hBa (h.n.alloc _) h3
 exact ⟨v',w',h1,xK (h.n.alloc _) h3 (h.o.alloc _) (by decide),by rw [kX,List.length_append];exact h2,hb',Nat.le_trans hBa h3.size⟩
theorem TwoR.moreO (h:TwoR B w0 A F ov nv W) {src:Value} {us:List Prt} (hx:zD W src us) (hl:A.length≤1000000000000) (hm:us.length≤1000000000000) :
  ∃ v' w',(Builtin.append_ #[23,23] 23 #[ov,src]).run Tryz.prog W=.ok v' w'∧TwoR B w0 (A++us) F v' nv w':=by
 obtain ⟨v',w',h1,h2,h3,_⟩:=vV (P:=Tryz.prog) W 23 23 38 Tryz.underlying23 B kD rfl (by decide) ov A.length (zV A) h.o src us.length (zV us) hx (fC us) (by omega) (by omega) h.B
 have hb':=kJ h.b h.B h.o h3
 exact ⟨v',w',h1,by rw [yK,List.length_append];exact h2,xK h.o h3 h.n (by decide),hb',Nat.le_trans h.B h3.size⟩
theorem TwoR.moreN (h:TwoR B w0 A F ov nv W) {src:Value} {us:List Int} (hx:zI W src .i64 us) (hl:F.length≤1000000000000) (hm:us.length≤1000000000000) :
  ∃ v' w',(Builtin.append_ #[27,27] 27 #[nv,src]).run Tryz.prog W=.ok v' w'∧TwoR B w0 A (F++us) ov v' w':=by
 obtain ⟨v',w',h1,h2,h3,_⟩:=vV (P:=Tryz.prog) W 27 27 3 Tryz.underlying27 B xY rfl (by decide) nv F.length (intsV F) h.n src us.length (intsV us) hx (zBx us) (by omega) (by omega) h.B
 have hb':=kJ h.b h.B h.n h3
 exact ⟨v',w',h1,xK h.n h3 h.o (by decide),by rw [kX,List.length_append];exact h2,hb',Nat.le_trans h.B h3.size⟩
theorem TwoR.oRow (h:TwoR B w0 A F ov nv W):zD W ov A:=Row.of_owns h.o
theorem TwoR.nRow (h:TwoR B w0 A F ov nv W):zI W nv .i64 F:=zI.of_owns h.n
end
end Go.Proofs.YtfalelkfhandfaaGreatDoor
