/- Layer 11: Kids, the program's and the document's, and the document's Up, walked. -/
import Derived.Test.YtfalelkfhandfaaGreatDoorTermQMq
import Derived.Test.YtfalelkfhandfaaGreatDoorRuleAMq
import Derived.Laws.CopyOwn
import Derived.Test.YtfalelkfhandfaaGreatDoorCoreMq
import Derived.StillTailTactics
import Derived.Test.YtfalelkfhandfaaGreatDoorFindQMq
import Derived.Test.YtfalelkfhandfaaGreatDoorAppEqMq
import Derived.Test.YtfalelkfhandfaaGreatDoorFindPMq
import Derived.Test.YtfalelkfhandfaaGreatDoorPackMq
import Derived.Test.YtfalelkfhandfaaGreatDoorStillMq
import Derived.Deep.RegionHeld3
namespace Go.Proofs.YtfalelkfhandfaaGreatDoor
set_option linter.all false
open Go.RowKit
end Go.Proofs.YtfalelkfhandfaaGreatDoor
namespace Go.Proofs.YtfalelkfhandfaaGreatDoor
set_option linter.all false

end Go.Proofs.YtfalelkfhandfaaGreatDoor
namespace Go.Proofs.YtfalelkfhandfaaGreatDoor
set_option linter.all false
open Go Go.RowKit

section
variable {P:Program}
end
end Go.Proofs.YtfalelkfhandfaaGreatDoor
namespace Go.Proofs.YtfalelkfhandfaaGreatDoor
set_option linter.all false
attribute [local irreducible] wpStill
open Go.RowKit

def sndN:Nat→Code→Code
 | 0,c=>c
 | n+1,.seq _ b=>sndN n b
 | _,c=>c
def fstC:Code→Code
 | .seq a _=>a
 | c=>c
theorem kA:(Tryz.prog.info? 38).map (fun i=>(i.zero,i.size,i.bytes))=some (some (.agg #[.int .u8 0,.int .i64 0,.string ByteArray.empty]),3,32):=by kernel_rfl
theorem jV (l:List Prt):∀ u∈zU l,u.oneCell'=true:=by
 intro u hu
 unfold zU at hu
 rw [List.mem_flatMap] at hu
 obtain ⟨p,_,hp⟩:=hu
 unfold partV at hp
 simp at hp
 rcases hp with rfl | rfl | rfl <;> rfl
theorem zG.piece {w:World} {b off n cap:Nat} {l:List Prt} (h:zG w (.slice (some ⟨b,off,Option.none⟩) n cap) l) (i e:Nat) (hi:i≤e) (he:e≤l.length) (j:Nat) (v:Value) (hv:(zU ((l.drop i).take (e-i)))[j]?=some v):w.cell? (Addr.add ⟨b,off+i*3,Option.none⟩ j)=some v:=by
 obtain ⟨h1,a',cap',hv',hc,_,h2⟩:=h
 simp only [Value.slice.injEq] at hv'
 obtain ⟨rfl,rfl,rfl⟩:=hv'
 have hj:=(List.getElem?_eq_some_iff.1 hv).1
 rw [yE,List.length_take,List.length_drop] at hj
 obtain ⟨b',off',ha,_,hcell⟩:=h2 (by omega)
 simp only [Option.some.injEq,Addr.mk.injEq,and_true] at ha
 obtain ⟨rfl,rfl⟩:=ha
 have e0:∀ o j,(⟨b,o,Option.none⟩:Addr).add j=⟨b,o+j,Option.none⟩:=by intro o j;simp [Addr.add]
 have e1:(Addr.add ⟨b,off+i*3,Option.none⟩ j:Addr)=⟨b,off+(i*3+j),Option.none⟩:=by rw [e0,Nat.add_assoc]
 rw [e1,hcell _ (by omega),← hv]
 have hsp:l=l.take i++((l.drop i).take (e-i)++(l.drop i).drop (e-i)):=by rw [List.take_append_drop,List.take_append_drop]
 have hA:(zU (l.take i)).length=i*3:=by rw [yE,List.length_take,Nat.min_eq_left (by omega)]
 conv=>lhs;rw [hsp,yF,yF]
 rw [List.getElem?_append_right (by omega),hA,show i*3+j-i*3=j by omega,List.getElem?_append_left (by rw [yE,List.length_take,List.length_drop];omega)]
end Go.Proofs.YtfalelkfhandfaaGreatDoor
namespace Go.Proofs.YtfalelkfhandfaaGreatDoor
set_option linter.all false
open Go.RowKit

theorem zEc {w:World} {b o:Nat} {v:Value} (h:w.cell? ⟨b,o,none⟩=some v):b<w.heap.size:=by
 apply Classical.byContradiction
 intro hn
 unfold World.cell? at h
 rw [Array.getElem?_eq_none (by simpa using hn)] at h
 cases h
theorem zAw {w w':World} {b o:Nat} (h:w'.heap[b]?=w.heap[b]?):w'.cell? ⟨b,o,none⟩=w.cell? ⟨b,o,none⟩:=by
 unfold World.cell?
 simp only [h]
theorem xO {w w':World} {B B2:Nat} {e e2:TypeId} {size n size2 n2:Nat} {v v2:Value} {xs xs2:List Value} (h:w.ownsRow B e size v n xs) (hg:w.grownBy w' v.ownBlock) (h2:w.ownsRow B2 e2 size2 v2 n2 xs2) (ht:e2≠e):w'.ownsRow B2 e2 size2 v2 n2 xs2:=by
 obtain ⟨g1,g2⟩:=h2
 refine ⟨g1,?_⟩
 rcases g2 with g2 | ⟨k,cap,cur,hv,hk,hh,r⟩
 ·exact Or.inl g2
 ·refine Or.inr ⟨k,cap,cur,hv,hk,?_,r⟩
  rw [hg.block k (zD hh) ?_,hh]
  intro e1
  rcases h.2 with ⟨rfl,_⟩ | ⟨k1,cap1,cur1,rfl,_,hh1,_⟩
  ·simp [Value.ownBlock] at e1
  ·simp [Value.ownBlock] at e1
   subst e1
   rw [hh] at hh1
   cases hh1
   exact ht rfl
structure InW (w0:World) (q:Nat) (kp:Nat→Nat) (ka:Option Addr) (hk:Nat) (hw:ByteArray) (M:List PN) (ov fv:Value) (w:World):Prop where
 o:w.ownsRow w0.heap.size 38 3 ov (M.length+1) (zU ((hk,(cntP (M.map (·.1)):Int),hw)::M.map (·.1)))
 f:w.ownsRow w0.heap.size 3 1 fv (M.length+1) (intsV (-1::M.map (·.2)))
 k:∀ c,c<q→∃ g,ka=some ⟨g,0,none⟩∧ov.ownBlock≠some g∧fv.ownBlock≠some g∧w.cell? ⟨g,c,none⟩=some (.int .i64 (kp c:Int))
 b:Below w0.heap.size w0 w
theorem InW.below {w0 w w':World} {q:Nat} {kp:Nat→Nat} {ka:Option Addr} {hk:Nat} {hw:ByteArray} {M:List PN} {ov fv:Value} (h:InW w0 q kp ka hk hw M ov fv w) (hb:Below w.heap.size w w'):InW w0 q kp ka hk hw M ov fv w' :=
 ⟨zL h.o hb,zL h.f hb,fun c hc=>by
  obtain ⟨g,h1,h2,h3,h4⟩:=h.k c hc
  exact ⟨g,h1,h2,h3,by rw [hb.cell (p:=⟨g,c,none⟩) (zEc h4)];exact h4⟩,zB h.b hb⟩
theorem zHz {w:World} {B B2:Nat} {e e2:TypeId} {size n size2 n2:Nat} {v v2:Value} {xs xs2:List Value} (h:w.ownsRow B e size v n xs) (h2:w.ownsRow B2 e2 size2 v2 n2 xs2) (ht:e2≠e) {g:Nat} (hg:v.ownBlock=some g):v2.ownBlock≠some g:=by
 intro hg2
 rcases h.2 with ⟨hv,_⟩ | ⟨k,cap,cur,hv,_,hh,_⟩
 ·rw [hv] at hg;simp [Value.ownBlock] at hg
 ·rw [hv] at hg;simp [Value.ownBlock] at hg;subst hg
  rcases h2.2 with ⟨hv2,_⟩ | ⟨k2,cap2,cur2,hv2,_,hh2,_⟩
  ·rw [hv2] at hg2;simp [Value.ownBlock] at hg2
  ·rw [hv2] at hg2;simp [Value.ownBlock] at hg2;subst hg2
   rw [hh] at hh2
   simp only [Option.some.injEq,Obj.cells.injEq] at hh2
   exact ht hh2.2.1.symm
theorem zBq (xs:List Int):∀ u∈intsV xs,u.oneCell'=true:=by
 intro u hu
 unfold intsV at hu
 obtain ⟨x,_,rfl⟩:=List.mem_map.1 hu
 rfl
theorem jQ (a b:List Int):intsV (a++b)=intsV a++intsV b:=by unfold intsV;rw [List.map_append]
theorem InW.step {w0 w:World} {q:Nat} {kp:Nat→Nat} {ka:Option Addr} {hk:Nat} {hw:ByteArray} {M N:List PN} {ov fv va vb:Value} (h:InW w0 q kp ka hk hw M ov fv w) {us ts:List Nat} (hu:zF (M.map (·.1))=some us) (ht:zF (N.map (·.1))=some ts) {B:Nat}
  (ha:w.ownsRow B 38 3 va N.length (zU (N.map (·.1)))) (hb:w.ownsRow B 3 1 vb N.length (intsV (N.map (·.2)))) (hB:∀ g,ov.ownBlock=some g→g<B) (hB2:∀ g,fv.ownBlock=some g→g<B) (hlen:M.length+N.length≤1000000000) :
  ∃ g cap w8 w9 v8 v9,ov=.slice (some ⟨g,0,none⟩) (M.length+1) cap∧M.length+1≤cap∧w.cell? ⟨g,1,none⟩=some (.int .i64 (us.length:Int))∧w.frozen? ⟨g,1,none⟩=false ∧
   (Builtin.append_ #[23,23] 23 #[ov,va]).run Tryz.prog (w.setCell ⟨g,1,none⟩ (.int .i64 ((us.length:Int)+ts.length)))=.ok v8 w8 ∧
   (Builtin.append_ #[27,27] 27 #[fv,vb]).run Tryz.prog w8=.ok v9 w9∧InW w0 q kp ka hk hw (M++N) v8 v9 w9:=by
 have hc1:cntP (M.map (·.1))=us.length:=jY hu
 have hc2:cntP ((M++N).map (·.1))=us.length+ts.length:=by rw [List.map_append];exact zSw hu ht
 have hoo:=h.o
 rcases hoo.2 with ⟨_,h0⟩ | ⟨g,cap,cur,hv,hg,hh,hnc,hcm,hcs,htk⟩
 ·omega
 subst hv
 have hog:(Value.slice (some ⟨g,0,none⟩) (M.length+1) cap).ownBlock=some g:=rfl
 have hc:w.cell? ⟨g,1,none⟩=some (.int .i64 (us.length:Int)):=by
  rw [hoo.cellAt 1 (by omega),hc1]
  rfl
 have hz:w.frozen? ⟨g,1,none⟩=false:=by simp [World.frozen?,hh]
 have o7:=xH hoo 1 (by rw [yE,List.length_cons];omega) (.int .i64 ((us.length:Int)+ts.length))
 have e7:(zU ((hk,(cntP (M.map (·.1)):Int),hw)::M.map (·.1))).set 1 (.int .i64 ((us.length:Int)+ts.length))=zU ((hk,(us.length:Int)+ts.length,hw)::M.map (·.1)):=rfl
 rw [e7] at o7
 have n1:va.ownBlock≠some g:=fun e=>by
  have h1:=(ha.lt g e).1
  have h2:=hB g hog
  omega
 have n2:=zHz hoo h.f (by decide) hog
 have n3:=zHz hoo hb (by decide) hog
 have a7:=ownsRow_setCell_other ha (a:=⟨g,1,none⟩) n1 (.int .i64 ((us.length:Int)+ts.length))
 have f7:=ownsRow_setCell_other h.f (a:=⟨g,1,none⟩) n2 (.int .i64 ((us.length:Int)+ts.length))
 have b7:=ownsRow_setCell_other hb (a:=⟨g,1,none⟩) n3 (.int .i64 ((us.length:Int)+ts.length))
 have w7b:=h.b.setCell (p:=⟨g,1,none⟩) hg (.int .i64 ((us.length:Int)+ts.length))
 have k7:∀ c,c<q→∃ g',ka=some ⟨g',0,none⟩∧g'≠g∧fv.ownBlock≠some g'∧(w.setCell ⟨g,1,none⟩ (.int .i64 ((us.length:Int)+ts.length))).cell? ⟨g',c,none⟩=some (.int .i64 (kp c:Int)):=fun c hc=>by
  obtain ⟨g',h1,h2,h3,h4⟩:=h.k c hc
  have hne:g'≠g:=fun e=>h2 (by rw [e];rfl)
  exact ⟨g',h1,hne,h3,by rw [World.cell?_setCell_other (h:=fun e=>hne (congrArg Addr.block e).symm)];exact h4⟩
 generalize hW7:w.setCell ⟨g,1,none⟩ (.int .i64 ((us.length:Int)+ts.length))=w7 at *
 obtain ⟨v8,w8,r8,o8,g8,p8⟩:=vH (P:=Tryz.prog) w7 23 23 38 Tryz.underlying23 w0.heap.size kA rfl (by decide) _ (M.length+1) _ o7 va N.length (zU (N.map (·.1))) (Row.of_owns a7) (jV _) (by omega) (by omega) w7b.size
 have f8:=xO o7 g8 f7 (by decide)
 have b8:=xO o7 g8 b7 (by decide)
 have w8b:=xT w7b w7b.size o7 g8
 obtain ⟨v9,w9,r9,f9,g9,p9⟩:=vH (P:=Tryz.prog) w8 27 27 3 Tryz.underlying27 w0.heap.size vW rfl (by decide) fv (M.length+1) _ f8 vb N.length (intsV (N.map (·.2))) (Row.of_owns b8) (zBq _) (by omega) (by omega) w8b.size
 have o9:=xO f8 g9 o8 (by decide)
 have w9b:=xT w8b w8b.size f8 g9
 refine ⟨g,cap,w8,w9,v8,v9,rfl,hnc,hc,hz,by rw [hW7];exact r8,r9,⟨?_,?_,fun c hc=>?_,w9b⟩⟩
 ·rw [hc2]
  rw [List.map_append,List.length_append,show M.length+N.length+1=M.length+1+N.length by omega,← List.cons_append,yF]
  push_cast
  exact o9
 ·rw [List.map_append,List.length_append,show M.length+N.length+1=M.length+1+N.length by omega,← List.cons_append,jQ]
  exact f9
 ·obtain ⟨g',h1,h2,h3,h4⟩:=k7 c hc
  have l7:=zEc h4
  have e8:w8.cell? ⟨g',c,none⟩=some (.int .i64 (kp c:Int)):=by
   have:=g8.block g' l7 (fun e=>h2 (by rw [hog] at e;exact (Option.some.inj e)))
   rw [zAw this];exact h4
  have l8:=zEc e8
  have e9:w9.cell? ⟨g',c,none⟩=some (.int .i64 (kp c:Int)):=by
   have:=g9.block g' l8 (fun e=>h3 e.symm)
   rw [zAw this];exact e8
  refine ⟨g',h1,?_,?_,e9⟩
  ·rcases p8 with e | e
   ·rw [e,hog];exact fun e2=>h2 (Option.some.inj e2).symm
   ·rw [e];exact fun e2=>by have:=Option.some.inj e2;omega
  ·rcases p9 with e | e
   ·rw [e];exact h3
   ·rw [e];exact fun e2=>by have:=Option.some.inj e2;omega
end Go.Proofs.YtfalelkfhandfaaGreatDoor
namespace Go.Proofs.YtfalelkfhandfaaGreatDoor
set_option linter.all false
open Go Go.RowKit

structure KpM (B g:Nat) (W W':World):Prop where
 os:W'.os=W.os
 tape:W'.tape=W.tape
 output:W'.output=W.output
 size:W.heap.size≤W'.heap.size
 low:∀ k,k<B→k≠g→W'.heap[k]?=W.heap[k]?
theorem KpM.refl (B g:Nat) (W:World):KpM B g W W:=⟨rfl,rfl,rfl,Nat.le_refl _,fun _ _ _=>rfl⟩
theorem KpM.trans {B g:Nat} {a b c:World} (h:KpM B g a b) (k:KpM B g b c):KpM B g a c :=
 ⟨k.os.trans h.os,k.tape.trans h.tape,k.output.trans h.output,Nat.le_trans h.size k.size,fun i h1 h2=>(k.low i h1 h2).trans (h.low i h1 h2)⟩
theorem KpM.of_below {B g:Nat} {W W':World} (hB:B≤W.heap.size) (h:Below W.heap.size W W'):KpM B g W W':=⟨h.os,h.tape,h.output,h.size,fun k hk _=>h.block k (by omega)⟩
theorem KpM.drewN {B g:Nat} {a W:World} (h:KpM B g a W) (n:Nat):KpM B g a (W.drewN n):=⟨h.os,h.tape,h.output,h.size,h.low⟩
theorem KpM.drew {B g:Nat} {a W:World} (h:KpM B g a W):KpM B g a W.drew:=⟨h.os,h.tape,h.output,h.size,h.low⟩
theorem KpM.alloc {B g:Nat} {a W:World} (h:KpM B g a W) (hB:B≤W.heap.size) (o:Obj):KpM B g a (W.alloc o):=h.trans (KpM.of_below hB ((Below.refl _ _).alloc (Nat.le_refl _) o))
theorem KpM.setG {B g:Nat} {a W:World} (h:KpM B g a W) (j:Nat) (v:Value):KpM B g a (W.setCell ⟨g,j,none⟩ v) :=
 ⟨h.os,h.tape,h.output,by have:=h.size;simpa using this,fun k h1 h2=>by rw [heap_setCell_other _ _ _ _ h2];exact h.low k h1 h2⟩
theorem KpM.setO {B g:Nat} {a W:World} (h:KpM B g a W) {b:Nat} (hb:B≤b) (j:Nat) (v:Value):KpM B g a (W.setCell ⟨b,j,none⟩ v) :=
 ⟨h.os,h.tape,h.output,by have:=h.size;simpa using this,fun k h1 h2=>by rw [heap_setCell_other _ _ _ _ (show k≠b by omega)];exact h.low k h1 h2⟩
theorem KpM.grown {B g:Nat} {a W W':World} (h:KpM B g a W) {e:TypeId} {size n:Nat} {v:Value} {xs:List Value} (ho:W.ownsRow B e size v n xs) (hB:B≤W.heap.size) (hg:W.grownBy W' v.ownBlock):KpM B g a W' :=
 ⟨hg.os.trans h.os,hg.tape.trans h.tape,hg.output.trans h.output,Nat.le_trans h.size hg.size,fun k h1 h2=>(hg.block k (by omega) (fun e=>by have:=(ho.lt k e.symm).1;omega)).trans (h.low k h1 h2)⟩
theorem KpM.cell {B g:Nat} {W W':World} (h:KpM B g W W') {b o:Nat} (hb:b<B) (hg:b≠g):W'.cell? ⟨b,o,none⟩=W.cell? ⟨b,o,none⟩:=by
 simp only [World.cell?,h.low b hb hg]
theorem KpM.row {B g:Nat} {W W':World} (h:KpM B g W W') (hB:B≤W.heap.size) {v:Value} {n sz:Nat} {cs:List Value} (hr:Row W v n sz cs) (hv:∀ b,v.ownBlock=some b→b<B∧b≠g):Row W' v n sz cs:=by
 obtain ⟨h1,a,cap,e,hc,hz,h2⟩:=hr
 refine ⟨h1,a,cap,e,hc,hz,fun hn=>?_⟩
 obtain ⟨b,off,ha,hlt,hcell⟩:=h2 hn
 subst ha
 obtain ⟨k1,k2⟩:=hv b (by rw [e];rfl)
 refine ⟨b,off,rfl,by have:=h.size;omega,fun i hi=>?_⟩
 rw [← hcell i hi]
 exact h.cell k1 k2
theorem KpM.below {B g:Nat} {w W W':World} (h:KpM B g W W') (hw:Below w.heap.size w W) (hB:w.heap.size≤B) (hg:w.heap.size≤g):Below w.heap.size w W' :=
 ⟨h.os.trans hw.os,h.tape.trans hw.tape,h.output.trans hw.output,Nat.le_trans hw.size h.size,fun k hk=>(h.low k (by omega) (by omega)).trans (hw.block k hk)⟩
end Go.Proofs.YtfalelkfhandfaaGreatDoor
namespace Go.Proofs.YtfalelkfhandfaaGreatDoor
set_option linter.all false
open Go Go.RowKit

structure CpE where
 l:List Prt
 fr:List Int
 g:Nat
 B:Nat
 T:TypeId
 vl:Value
 vf:Value
def cpB (E:CpE) (ov nv:Value) (i:Nat) (W:World):Prop:=W.heap[E.g]?=some (.cells #[E.vl,E.vf,ov,nv,.int .i64 (i:Int)] E.T (0,0))
theorem cpB.cells {E:CpE} {ov nv:Value} {i:Nat} {W:World} (h:cpB E ov nv i W):W.cell? ⟨E.g,0,none⟩=some E.vl∧W.cell? ⟨E.g,1,none⟩=some E.vf∧W.cell? ⟨E.g,2,none⟩=some ov∧W.cell? ⟨E.g,3,none⟩=some nv∧W.cell? ⟨E.g,4,none⟩=some (.int .i64 (i:Int))∧∀ j,W.frozen? ⟨E.g,j,none⟩=false:=by
 unfold cpB at h
 simp [World.cell?,World.frozen?,h]
theorem cpB.set {E:CpE} {ov nv:Value} {i:Nat} {W:World} (h:cpB E ov nv i W):(∀ v,cpB E v nv i (W.setCell ⟨E.g,2,none⟩ v))∧(∀ v,cpB E ov v i (W.setCell ⟨E.g,3,none⟩ v))∧(∀ j:Nat,cpB E ov nv j (W.setCell ⟨E.g,4,none⟩ (.int .i64 (j:Int)))):=by
 unfold cpB at *
 refine ⟨fun v=>?_,fun v=>?_,fun j=>?_⟩
 ·exact heap_setCell_same W E.g 2 _ _ v h
 ·exact heap_setCell_same W E.g 3 _ _ v h
 ·exact heap_setCell_same W E.g 4 _ _ (.int .i64 (j:Int)) h
structure CpIn (w0:World) (E:CpE) (out:List Prt) (ns:List Int) (i:Nat) (ov nv:Value) (W:World):Prop where
 b:Below w0.heap.size w0 W
 s:cpB E ov nv i W
 o:W.ownsRow E.B 38 3 ov out.length (zU out)
 f:W.ownsRow E.B 3 1 nv ns.length (intsV ns)
 g0:w0.heap.size≤E.g
 gB:E.g<E.B
 B:E.B≤W.heap.size
theorem CpIn.below {w0 W W':World} {E:CpE} {out:List Prt} {ns:List Int} {i:Nat} {ov nv:Value} (h:CpIn w0 E out ns i ov nv W) (hb:Below W.heap.size W W'):CpIn w0 E out ns i ov nv W' :=
 ⟨zB h.b hb,keeps hb h.s,zL h.o hb,zL h.f hb,h.g0,h.gB,by have:=h.B;have:=hb.size;omega⟩
theorem ownsG {W:World} {B g:Nat} {e:TypeId} {size n:Nat} {v:Value} {xs:List Value} (h:W.ownsRow B e size v n xs) (hg:g<B) (j:Nat) (u:Value):(W.setCell ⟨g,j,none⟩ u).ownsRow B e size v n xs :=
 ownsRow_setCell_other h (a:=⟨g,j,none⟩) (fun e=>by have:=(h.lt g e).1;omega) u
theorem CpIn.step {w0 W:World} {E:CpE} {out:List Prt} {ns:List Int} {i:Nat} {ov nv:Value} (h:CpIn w0 E out ns i ov nv W) (j:Nat):CpIn w0 E out ns j ov nv (W.setCell ⟨E.g,4,none⟩ (.int .i64 (j:Int))) :=
 ⟨h.b.setCell (p:=⟨E.g,4,none⟩) h.g0 _,h.s.set.2.2 j,ownsG h.o h.gB _ _,ownsG h.f h.gB _ _,h.g0,h.gB,by simpa using h.B⟩
structure KpC (g:Nat) (ov nv ov' nv':Value) (W W':World):Prop where
 os:W'.os=W.os
 tape:W'.tape=W.tape
 output:W'.output=W.output
 size:W.heap.size≤W'.heap.size
 low:∀ k,k<W.heap.size→k≠g→ov.ownBlock≠some k→nv.ownBlock≠some k→W'.heap[k]?=W.heap[k]?
 no:∀ k,ov'.ownBlock=some k→ov.ownBlock=some k∨W.heap.size≤k
 nn:∀ k,nv'.ownBlock=some k→nv.ownBlock=some k∨W.heap.size≤k
theorem KpC.refl (g:Nat) (ov nv:Value) (W:World):KpC g ov nv ov nv W W:=⟨rfl,rfl,rfl,Nat.le_refl _,fun _ _ _ _ _=>rfl,fun _ h=>Or.inl h,fun _ h=>Or.inl h⟩
theorem KpC.trans {g:Nat} {o1 n1 o2 n2 o3 n3:Value} {a b c:World} (h:KpC g o1 n1 o2 n2 a b) (k:KpC g o2 n2 o3 n3 b c):KpC g o1 n1 o3 n3 a c :=
 ⟨k.os.trans h.os,k.tape.trans h.tape,k.output.trans h.output,Nat.le_trans h.size k.size,fun i h1 h2 h3 h4=>(k.low i (Nat.lt_of_lt_of_le h1 h.size) h2 (fun e=>by
   rcases h.no i e with e | e
   ·exact h3 e
   ·omega) (fun e=>by
   rcases h.nn i e with e | e
   ·exact h4 e
   ·omega)).trans (h.low i h1 h2 h3 h4),fun i e=>by
   rcases k.no i e with e | e
   ·exact h.no i e
   ·exact Or.inr (Nat.le_trans h.size e),fun i e=>by
   rcases k.nn i e with e | e
   ·exact h.nn i e
   ·exact Or.inr (Nat.le_trans h.size e)⟩
theorem KpC.of_below {g:Nat} {ov nv:Value} {W W':World} (h:Below W.heap.size W W'):KpC g ov nv ov nv W W':=⟨h.os,h.tape,h.output,h.size,fun k hk _ _ _=>h.block k hk,fun _ e=>Or.inl e,fun _ e=>Or.inl e⟩
theorem KpC.setG {g:Nat} {o1 n1 o2 n2:Value} {a W:World} (h:KpC g o1 n1 o2 n2 a W) (j:Nat) (v:Value):KpC g o1 n1 o2 n2 a (W.setCell ⟨g,j,none⟩ v) :=
 ⟨h.os,h.tape,h.output,by have:=h.size;simpa using this,fun k h1 h2 h3 h4=>by rw [heap_setCell_other _ _ _ _ h2];exact h.low k h1 h2 h3 h4,h.no,h.nn⟩
theorem KpC.cell {g:Nat} {ov nv ov' nv':Value} {W W':World} (h:KpC g ov nv ov' nv' W W') {k o:Nat} (hk:k<W.heap.size) (h1:k≠g) (h2:ov.ownBlock≠some k) (h3:nv.ownBlock≠some k):W'.cell? ⟨k,o,none⟩=W.cell? ⟨k,o,none⟩:=by
 simp only [World.cell?,h.low k hk h1 h2 h3]
theorem CpIn.part {w0 W:World} {E:CpE} {out:List Prt} {ns:List Int} {i:Nat} {ov nv:Value} (h:CpIn w0 E out ns i ov nv W) (p:Prt) (hn:out.length≤1000000000) :
  ∃ v1 w1,(Builtin.append_ #[23,23] 23 #[ov,.slice (some ⟨W.heap.size,0,none⟩) 1 1]).run Tryz.prog (W.alloc (.cells #[.int .u8 (p.1:Int),.int .i64 p.2.1,.string p.2.2] 38))=.ok v1 w1∧cpB E ov nv i w1∧CpIn w0 E (out++[p]) ns i v1 nv (w1.setCell ⟨E.g,2,none⟩ v1)∧KpC E.g ov nv v1 nv W (w1.setCell ⟨E.g,2,none⟩ v1):=by
 have hBs:=h.B
 obtain ⟨v1,w1,r1,o1,g1,p1⟩:=yH (P:=Tryz.prog) W #[.int .u8 (p.1:Int),.int .i64 p.2.1,.string p.2.2] 38 23 23 38 Tryz.underlying23 E.B kA rfl (by decide) ov out.length _ h.o 1 1 rfl (Nat.le_refl _) (by intro u hu;simp at hu;rcases hu with rfl | rfl | rfl <;> rfl) (by omega) (by omega) hBs
 have oa:=h.o.alloc (.cells #[.int .u8 (p.1:Int),.int .i64 p.2.1,.string p.2.2] 38)
 have hBa:E.B≤(W.alloc (.cells #[.int .u8 (p.1:Int),.int .i64 p.2.1,.string p.2.2] 38)).heap.size:=by simp;omega
 have k1:=((KpM.refl E.B E.g W).alloc hBs (.cells #[.int .u8 (p.1:Int),.int .i64 p.2.1,.string p.2.2] 38)).grown oa hBa g1
 have f1:=xO oa g1 (h.f.alloc (.cells #[.int .u8 (p.1:Int),.int .i64 p.2.1,.string p.2.2] 38)) (by decide)
 have hgl:=zD h.s
 have s1:cpB E ov nv i w1:=by
  unfold cpB
  rw [g1.block E.g (by simp;omega) (fun e=>by have:=(oa.lt E.g e.symm).1;have:=h.gB;omega),Below.heap_alloc _ _ _ hgl]
  exact h.s
 have hb1:Below w0.heap.size w0 w1:=k1.below h.b (by have:=h.g0;have:=h.gB;omega) h.g0
 have kc:KpC E.g ov nv v1 nv W w1:=⟨g1.os,g1.tape,g1.output,k1.size,fun k h1 h2 h3 _=>by rw [g1.block k (by simp;omega) (fun e=>h3 e.symm),Below.heap_alloc _ _ _ h1],fun k e=>by
  rcases p1 with q | q
  ·exact Or.inl (q ▸ e)
  ·rw [q] at e;have:=Option.some.inj e;exact Or.inr (by omega),fun _ e=>Or.inl e⟩
 refine ⟨v1,w1,r1,s1,⟨hb1.setCell (p:=⟨E.g,2,none⟩) h.g0 _,s1.set.1 v1,?_,ownsG f1 h.gB _ _,h.g0,h.gB,by have:=k1.size;simp;omega⟩,kc.setG _ _⟩
 rw [List.length_append,yF]
 exact ownsG o1 h.gB _ _
theorem CpIn.num {w0 W:World} {E:CpE} {out:List Prt} {ns:List Int} {i:Nat} {ov nv:Value} (h:CpIn w0 E out ns i ov nv W) (z:Int) (hn:ns.length≤1000000000) :
  ∃ v1 w1,(Builtin.append_ #[27,27] 27 #[nv,.slice (some ⟨W.heap.size,0,none⟩) 1 1]).run Tryz.prog (W.alloc (.cells #[.int .i64 z] 3))=.ok v1 w1∧cpB E ov nv i w1∧CpIn w0 E out (ns++[z]) i ov v1 (w1.setCell ⟨E.g,3,none⟩ v1)∧KpC E.g ov nv ov v1 W (w1.setCell ⟨E.g,3,none⟩ v1):=by
 have hBs:=h.B
 obtain ⟨v1,w1,r1,f1,g1,p1⟩:=yH (P:=Tryz.prog) W #[.int .i64 z] 3 27 27 3 Tryz.underlying27 E.B vW rfl (by decide) nv ns.length _ h.f 1 1 rfl (Nat.le_refl _) (by intro u hu;simp at hu;subst hu;rfl) (by omega) (by omega) hBs
 have fa:=h.f.alloc (.cells #[.int .i64 z] 3)
 have hBa:E.B≤(W.alloc (.cells #[.int .i64 z] 3)).heap.size:=by simp;omega
 have k1:=((KpM.refl E.B E.g W).alloc hBs (.cells #[.int .i64 z] 3)).grown fa hBa g1
 have o1:=xO fa g1 (h.o.alloc (.cells #[.int .i64 z] 3)) (by decide)
 have hgl:=zD h.s
 have s1:cpB E ov nv i w1:=by
  unfold cpB
  rw [g1.block E.g (by simp;omega) (fun e=>by have:=(fa.lt E.g e.symm).1;have:=h.gB;omega),Below.heap_alloc _ _ _ hgl]
  exact h.s
 have hb1:Below w0.heap.size w0 w1:=k1.below h.b (by have:=h.g0;have:=h.gB;omega) h.g0
 have kc:KpC E.g ov nv ov v1 W w1:=⟨g1.os,g1.tape,g1.output,k1.size,fun k h1 h2 _ h3=>by rw [g1.block k (by simp;omega) (fun e=>h3 e.symm),Below.heap_alloc _ _ _ h1],fun _ e=>Or.inl e,fun k e=>by
  rcases p1 with q | q
  ·exact Or.inl (q ▸ e)
  ·rw [q] at e;have:=Option.some.inj e;exact Or.inr (by omega)⟩
 refine ⟨v1,w1,r1,s1,⟨hb1.setCell (p:=⟨E.g,3,none⟩) h.g0 _,s1.set.2.1 v1,ownsG o1 h.gB _ _,?_,h.g0,h.gB,by have:=k1.size;simp;omega⟩,kc.setG _ _⟩
 rw [List.length_append,jQ]
 exact ownsG f1 h.gB _ _
end Go.Proofs.YtfalelkfhandfaaGreatDoor
namespace Go.Proofs.YtfalelkfhandfaaGreatDoor
set_option maxRecDepth 100000
set_option maxHeartbeats 32000000
set_option linter.all false
attribute [local irreducible] Calls
attribute [local irreducible] wpStill
open Go.RowKit

structure CpF (w0:World) (E:CpE):Prop where
 L:zG w0 E.vl E.l
 F:zK w0 E.vf .i64 E.fr
 w:zZ E.l=true
 n:E.fr.length=E.l.length
 s:SmallL E.l
 M:MaxC w0
@[irreducible] def cpPost (w0:World) (E:CpE) (out:List Prt) (ns:List Int) (ov nv:Value) (M:List PN) (j:Nat) (W:World) (e:Ending) (w':World):Prop :=
 ∃ ov' nv' v,e=.returned v∧CpIn w0 E (out++M.map (·.1)) (ns++M.map (·.2)) j ov' nv' w'∧KpC E.g ov nv ov' nv' W w'
theorem zY {P:Program} {w w':World} {o:Oper} {a:Act} {K:Act→World→Prop} {Q:Exit→Act→World→Prop} (s x:Operand) (t u:TypeId) {v src v':Value} {ty:TypeId}
  (hrun:(Builtin.append_ #[t,u] ty #[v,src]).run P w=.ok v' w') (ho:o.op=.call { callee:=.builtin .append,args:=#[s,x],argTypes:=#[t,u] }) (hty:o.type=ty)
  (hs:a.eval s=v) (hx:a.eval x=src) (h:K (a.put o.dst v') w'):Oper.wp P o a w K Q:=by
 subst hty
 unfold Oper.wp
 simp [execOp,ho,resolve,invoke,builtin,hs,hx,hrun,Result.andThen]
 exact h
abbrev NormalInC (R:Act→World→Prop):Exit→Act→World→Prop:=fun e a w=>match e with
 | .normal=>R a w
 | _=>False
theorem fE {P:Program} {id:Nat} {ops:Array Oper} {a:Act} {w:World} {Q:Exit→Act→World→Prop} (F:Act→Act→World→Prop) (h1:(Code.region id ops true).wp P (NormalInC (F a)) a w) (h2:∀ a' w',F a a' w'→Q .normal a' w'):(Code.region id ops true).wp P Q a w :=
 Code.wp_mono (fun e a' w' h=>by cases e <;> first | exact h2 _ _ h | cases h) h1
theorem pk3 {W:World} {g:Nat} {k:Nat} {n:Int} {s:ByteArray} (h:PK W g (k,n,s)):W.cell? ⟨g,0,none⟩=some (.int .u8 (k:Int))∧W.cell? ⟨g,1,none⟩=some (.int .i64 n)∧W.cell? ⟨g,2,none⟩=some (.string s):=⟨h.c0,h.c1,h.c2⟩
theorem fF {W w1:World} {g c b:Nat} {p:Prt} {ov nv ov' nv' u:Value} (h:PK W b p) (hk:KpC g ov nv ov' nv' W (w1.setCell ⟨g,c,none⟩ u)) (h1:b≠g) (h2:ov.ownBlock≠some b) (h3:nv.ownBlock≠some b):PK w1 b p∧PK (w1.setCell ⟨g,c,none⟩ u) b p:=by
 have e:=hk.low b (lt_of_block h) h1 h2 h3
 have e2:PK (w1.setCell ⟨g,c,none⟩ u) b p:=by unfold PK at *;rw [e];exact h
 refine ⟨?_,e2⟩
 unfold PK at *
 rw [heap_setCell_other _ _ _ _ h1] at e2
 exact e2
theorem zMf {W w1:World} {g b:Nat} {p:Prt} {ov nv ov' nv':Value} (h:PK W b p) (hk:KpC g ov nv ov' nv' W w1) (h2:ov.ownBlock≠some b):ov'.ownBlock≠some b:=fun e=>by
 have hl:=lt_of_block h
 rcases hk.no b e with e | e
 ·exact h2 e
 ·omega
def PutC (w0:World) (E:CpE) (n:Nat):Prop:=∀ (W:World) (out:List Prt) (ns:List Int) (i:Nat) (ov nv:Value),CpIn w0 E out ns i ov nv W→i<E.l.length→2*(zA E.l i-i)≤n→out.length+(gPart E.l E.fr n i).length≤1000000000→ns.length=out.length →
 Calls Tryz.prog 43 #[.pointer (some ⟨E.g,0,none⟩)] W (cpPost w0 E out ns ov nv (gPart E.l E.fr n i) (zA E.l i) W)
def EachC (w0:World) (E:CpE) (n:Nat):Prop:=∀ (W:World) (out:List Prt) (ns:List Int) (i:Nat) (ov nv:Value),CpIn w0 E out ns (i+1) ov nv W→i<E.l.length→2*(zA E.l i-(i+1))+1≤n→out.length+(gKids E.l E.fr n (zT E.l i) 0 (i+1) (zA E.l i)).length≤1000000000→ns.length=out.length →
 Calls Tryz.prog 64 #[.pointer (some ⟨E.g,0,none⟩),partA (zT E.l i),.func (.func 43) #[.pointer (some ⟨E.g,0,none⟩)] #[]] W (cpPost w0 E out ns ov nv (gKids E.l E.fr n (zT E.l i) 0 (i+1) (zA E.l i)) (zA E.l i) W)
theorem zWk (w0:World) (E:CpE) (F:CpF w0 E) (n:Nat) (ihE:EachC w0 E n) (W:World) (out:List Prt) (ns:List Int) (i:Nat) (ov nv:Value) (hi:CpIn w0 E out ns i ov nv W) (hil:i<E.l.length) (hfu:2*(zA E.l i-i)≤n+1) (hlen:out.length+(gPart E.l E.fr (n+1) i).length≤1000000000) (hns:ns.length=out.length) :
  Calls Tryz.prog 43 #[.pointer (some ⟨E.g,0,none⟩)] W (cpPost w0 E out ns ov nv (gPart E.l E.fr (n+1) i) (zA E.l i) W):=by
 rw [gPart] at hlen ⊢
 rw [List.length_cons] at hlen
 have hg:=zJ (zI F.w) hil
 have hpt:zT E.l i=E.l[i]:=by unfold zT;simp [List.getD_eq_getElem?_getD,hil]
 have hfi:i<E.fr.length:=by rw [F.n];exact hil
 have hpn:pnAt E.l E.fr i=(zT E.l i,E.fr[i]):=by unfold pnAt zT;simp [List.getD_eq_getElem?_getD,hfi]
 obtain ⟨c0,c1,c2,c3,c4,cz⟩:=hi.s.cells
 have hLr:=F.L
 have hFr:=F.F
 obtain ⟨la,lc,hvl,hlc⟩:=F.L.slice
 obtain ⟨fa,fc,hvf,hfc,_⟩:=F.F.open'
 rw [hvl] at hLr c0
 rw [hvf] at hFr c1
 obtain ⟨lb,lo,rfl,y1,y2,y3,y4⟩:=hLr.at (Below.refl _ _) (show 0<E.l.length by omega)
 clear y1 y2 y3 y4
 obtain ⟨fb,fo,rfl,y1,y2,y4⟩:=gX hFr (Below.refl _ _) (show 0<E.fr.length by omega)
 clear y1 y2 y4
 have HCL:Hid (∀ W',Below W.heap.size W W'→W'.cell? ⟨lb,lo+i*3,none⟩=some (.int .u8 ((zT E.l i).1:Int))∧W'.cell? ⟨lb,lo+i*3+1,none⟩=some (.int .i64 (zT E.l i).2.1)∧W'.cell? ⟨lb,lo+i*3+2,none⟩=some (.string (zT E.l i).2.2)):=Hd fun W' hb=>by
  obtain ⟨b2,o2,e',_,_,_,hcc⟩:=hLr.at (zB hi.b hb) (show 0<E.l.length by omega)
  simp only [Option.some.injEq,Addr.mk.injEq,and_true] at e'
  obtain ⟨rfl,rfl⟩:=e'
  rw [hpt]
  exact hcc i hil
 have HCF:Hid (∀ W',Below w0.heap.size w0 W'→W'.cell? ⟨fb,fo+i,none⟩=some (.int .i64 E.fr[i])):=Hd fun W' hb=>by
  obtain ⟨b2,o2,e',_,_,hcc⟩:=gX hFr hb (show 0<E.fr.length by omega)
  simp only [Option.some.injEq,Addr.mk.injEq,and_true] at e'
  obtain ⟨rfl,rfl⟩:=e'
  exact hcc i _ (List.getElem?_eq_getElem hfi)
 have hgl:=zD hi.s
 have hfb:fb<w0.heap.size:=by
  have h:=HCF.out w0 (Below.refl _ _)
  apply Classical.byContradiction
  intro hc
  simp [World.cell?,Array.getElem?_eq_none (show w0.heap.size≤fb by omega)] at h
 have hg0:=hi.g0
 have HSF:Hid (∀ W' o' n' ov' nv',CpIn w0 E o' n' i ov' nv' W'→W'.cell? ⟨E.g,1,none⟩=some (.slice (some ⟨fb,fo,none⟩) E.fr.length fc)∧W'.cell? ⟨E.g,4,none⟩=some (.int .i64 (i:Int))∧W'.cell? ⟨fb,fo+i,none⟩=some (.int .i64 E.fr[i])):=Hd fun W' o' n' ov' nv' hc=>⟨by rw [hc.s.cells.2.1,hvf],hc.s.cells.2.2.2.2.1,HCF.out W' hc.b⟩
 have HSG:Hid (∀ W' ov' nv' u,cpB E ov' nv' i W'→Below w0.heap.size w0 (W'.setCell ⟨E.g,3,none⟩ u)→W'.cell? ⟨E.g,1,none⟩=some (.slice (some ⟨fb,fo,none⟩) E.fr.length fc)∧W'.cell? ⟨E.g,4,none⟩=some (.int .i64 (i:Int))∧W'.cell? ⟨fb,fo+i,none⟩=some (.int .i64 E.fr[i])):=Hd fun W' ov' nv' u hc hb=>⟨by rw [hc.cells.2.1,hvf],hc.cells.2.2.2.2.1,by
  have h:=HCF.out _ hb
  have hne:fb≠(⟨E.g,3,none⟩:Addr).block:=by show fb≠E.g;omega
  unfold World.cell? at h ⊢
  rw [heap_setCell_other _ _ _ _ hne] at h
  exact h⟩
 have hfl:(i:Int)<E.fr.length:=by omega
 have hflc:(i:Int)<(fc:Int):=by omega
 have hi9:(i:Int)+1≤9223372036854775807:=by have:=F.s.1;omega
 unfold EachC at ihE
 have HEI:=Hd (fun W' o' n' ov' nv'=>ihE W' o' n' i ov' nv')
 have HS0:Hid (∀ W',Below W.heap.size W W'→W'.cell? ⟨E.g,0,none⟩=some (.slice (some ⟨lb,lo,none⟩) E.l.length lc)∧W'.cell? ⟨E.g,4,none⟩=some (.int .i64 (i:Int))∧W'.cell? ⟨lb,lo+i*3,none⟩=some (.int .u8 ((zT E.l i).1:Int))∧W'.cell? ⟨lb,lo+i*3+1,none⟩=some (.int .i64 (zT E.l i).2.1)∧W'.cell? ⟨lb,lo+i*3+2,none⟩=some (.string (zT E.l i).2.2)):=Hd fun W' hb=>⟨by rw [hb.cell (p:=⟨E.g,0,none⟩) hgl];exact c0,by rw [hb.cell (p:=⟨E.g,4,none⟩) hgl];exact c4,HCL.out W' hb⟩
 have HI:=Hd hi
 have HF:=Hd F
 have hi0:(0:Int)≤(i:Int):=by omega
 have hill:(i:Int)<E.l.length:=by omega
 have hilc:(i:Int)<(lc:Int):=by omega
 have hpn':=Hd hpn
 have hNS:=Hd hns
 have hLN:=Hd hlen
 have hFU:=Hd hfu
 clear hi F ihE hvl hvf hLr hFr hg0 c0 c1 c2 c3 c4 cz hpt hpn hns hlen hfu
 generalize E.fr[i]=fz at *
 generalize zT E.l i=pp at *
 obtain ⟨pk,pn,pw⟩:=pp
 simp only [] at HS0 HCL
 go_enter Tryz.func43,Tryz.ntmps43
 go_upto_region 0 with (fail)
 go_region_held3 (fun W'=>W'.cell? ⟨E.g,0,none⟩=some (.slice (some ⟨lb,lo,none⟩) E.l.length lc)∧W'.cell? ⟨E.g,4,none⟩=some (.int .i64 (i:Int))∧W'.cell? ⟨lb,lo+i*3,none⟩=some (.int .u8 (pk:Int))∧W'.cell? ⟨lb,lo+i*3+1,none⟩=some (.int .i64 pn)∧W'.cell? ⟨lb,lo+i*3+2,none⟩=some (.string pw)) (first | exact HS0.out _ (Below.refl _ _).drew | exact HS0.out _ ((Below.refl _ _).drew.alloc (Nat.le_refl _) _) | exact HS0.out _ ((Below.refl _ _).alloc (Nat.le_refl _) _).drew | exact HS0.out _ ((((Below.refl _ _).alloc (Nat.le_refl _) _).drew.setCell (by simp) _).setCell (by simp) _) | exact HS0.out _ (((((Below.refl _ _).alloc (Nat.le_refl _) _).drew.setCell (by simp) _).setCell (by simp) _).setCell (by simp) _)) (fail)
 have HBX:=Hd (((Below.refl W.heap.size W).alloc (Nat.le_refl _) (.cells #[.int .u8 (pk:Int),.int .i64 pn,.string pw] 38)).drew)
 have HP1:Hid (PK (W.alloc (.cells #[.int .u8 (pk:Int),.int .i64 pn,.string pw] 38)).drew W.heap.size (pk,pn,pw)):=Hd ((PK.alloc_new W (pk,pn,pw)).keep (Below.refl _ _).drew)
 have HC1:=Hd (HI.out.below HBX.out)
 have HK1:=Hd (KpC.of_below (g:=E.g) (ov:=ov) (nv:=nv) HBX.out)
 have HTG:Hid (W.heap.size≠E.g):=Hd (by omega)
 have HTO:Hid (ov.ownBlock≠some W.heap.size):=Hd (fun e=>by have:=(HI.out.o.lt _ e).2;omega)
 have HTN:Hid (nv.ownBlock≠some W.heap.size):=Hd (fun e=>by have:=(HI.out.f.lt _ e).2;omega)
 clear HBX
 generalize (W.alloc (.cells #[.int .u8 (pk:Int),.int .i64 pn,.string pw] 38)).drew=W1 at *
 have hol:out.length≤1000000000:=by have:=hLN.out;omega
 clear HS0
 go_upto_region 1 with (fail)
 refine fE (fun a a' w'=>∃ (va:Option Addr) (vn vc gb:Nat),a'=((((((((((a.put (some 13) (.pointer (some ⟨E.g,0,none⟩))).put (some 14) (.pointer (some ⟨E.g,0,none⟩))).put (some 15) (.pointer (some ⟨E.g,0,none⟩))).put (some 16) (.pointer (some ⟨E.g,2,none⟩))).put (some 17) ov).put (some 18) (.agg #[.int .u8 (pk:Int),.int .i64 pn,.string pw])).put (some 19) (.slice (some ⟨gb,0,none⟩) 1 1)).put (some 20) (.slice va vn vc)).put (some 21) (.pointer (some ⟨E.g,0,none⟩))).put (some 22) (.pointer (some ⟨E.g,2,none⟩)))∧CpIn w0 E (out++[(pk,pn,pw)]) ns i (.slice va vn vc) nv w'∧PK w' W.heap.size (pk,pn,pw)∧KpC E.g ov nv (.slice va vn vc) nv W w'∧(Value.slice va vn vc).ownBlock≠some W.heap.size∧nv.ownBlock≠some W.heap.size) ?_ ?_
 ·refine wp_region_held_drew (S:=fun W'=>W'.cell? ⟨W.heap.size,0,none⟩=some (.int .u8 (pk:Int))∧W'.cell? ⟨W.heap.size,1,none⟩=some (.int .i64 pn)∧W'.cell? ⟨W.heap.size,2,none⟩=some (.string pw)) (by kernel_rfl) (pk3 (HP1.out.keep (Below.refl _ _).drew)) (fun hHeld=>?_)
  have HD:=Hd (HC1.out.below (Below.refl _ _).drew);have HPD:=Hd (HP1.out.keep (Below.refl _ _).drew);have HKD:=Hd (HK1.out.trans (KpC.of_below (Below.refl _ _).drew));clear HC1 HP1 HK1;generalize W1.drew=wd at *
  refine tkH 0 13 ?vr1_1_0 rfl ?hyr1_1_0 hHeld ?restr1_1_0
  case hyr1_1_0=>intro w q;(try dsimp only at q);go_simp;(try with_reducible rfl)
  (try simp only [aP])
  refine tkH 1 14 ?vr1_2_1 rfl ?hyr1_2_1 hHeld ?restr1_2_1
  case hyr1_2_1=>intro w q;(try dsimp only at q);go_simp;(try with_reducible rfl)
  (try simp only [aP])
  refine tkH 2 15 ?vr1_3_2 rfl ?hyr1_3_2 hHeld ?restr1_3_2
  case hyr1_3_2=>intro w q;(try dsimp only at q);go_simp;(try with_reducible rfl)
  (try simp only [aP])
  refine tkH 3 16 ?vr1_4_3 rfl ?hyr1_4_3 hHeld ?restr1_4_3
  case hyr1_4_3=>intro w q;(try dsimp only at q);go_simp;(try with_reducible rfl)
  (try simp only [aP])
  refine tkH 5 18 ?vr1_5_5 rfl ?hyr1_5_5 hHeld ?restr1_5_5
  case hyr1_5_5=>intro w q;(try dsimp only at q);go_simp;(try with_reducible rfl)
  (try simp only [aP])
  have HSA:=Hd (pk3 (HPD.out.keep ((Below.refl wd.heap.size wd).alloc (Nat.le_refl _) (.cells #[.int .u8 (pk:Int),.int .i64 pn,.string pw] 38))))
  have HDA:=Hd (HD.out.below ((Below.refl wd.heap.size wd).alloc (Nat.le_refl _) (.cells #[.int .u8 (pk:Int),.int .i64 pn,.string pw] 38)))
  refine wpAnyH_ready (rs:=[4,6]) (by kernel_rfl) (by simp) ?_
  refine AllReadyH.cons (o:=⟨some 17,_,_,_,_,_⟩) rfl (fun K hK=>?q1A) (AllReadyH.cons (o:=⟨some 19,_,_,_,_,_⟩) rfl (fun K hK=>?q1B) AllReadyH.nil)
  case q1A =>
   obtain ⟨c0,c1,c2,c3,c4,cz⟩:=HD.out.s.cells
   go_simp
   clear c0 c1 c2 c3 c4 cz
   refine hK.out _ _ hHeld (fun hH2=>?_)
   clear hK K hHeld
   (try simp only [aP])
   refine wpAnyH_ready (rs:=[6]) (by kernel_rfl) (by simp) ?_
   refine AllReadyH.cons (o:=⟨some 19,_,_,_,_,_⟩) rfl (fun K hK=>?_) AllReadyH.nil
   go_simp
   refine hK.out _ (wd.alloc (.cells #[.int .u8 (pk:Int),.int .i64 pn,.string pw] 38)) HSA.out (fun hH3=>?_)
   clear hK K hH2
   (try simp only [aP])
   refine wpAnyH_ready (rs:=[7]) (by kernel_rfl) (by simp) ?_
   refine AllReadyH.cons (o:=⟨some 20,_,_,_,_,_⟩) rfl (fun K hK=>?_) AllReadyH.nil
   rw [if_pos (by kernel_rfl)]
   obtain ⟨vx,w6,hr,hsx,hcx,hkx⟩:=HD.out.part (pk,pn,pw) (by omega)
   obtain ⟨vxa,vxn,vxc,rfl⟩:=zC hcx.o
   have HSX:=Hd hsx
   have HCX:=Hd hcx
   have HKX:=Hd hkx
   have HS6:=Hd (pk3 (fF HPD.out hkx HTG.out HTO.out HTN.out).1)
   have HS7:=Hd (pk3 (fF HPD.out hkx HTG.out HTO.out HTN.out).2)
   clear hsx hcx hkx
   refine zY _ _ _ _ hr rfl rfl rfl rfl ?_
   refine hK.out _ _ HS6.out (fun hH5=>?_)
   clear hK K hr hH3
   (try simp only [aP])
   refine tkH 8 21 ?vr1_6_8 rfl ?hyr1_6_8 hH5 ?restr1_6_8
   case hyr1_6_8=>intro w q;(try dsimp only at q);go_simp;(try with_reducible rfl)
   (try simp only [aP])
   refine tkH 9 22 ?vr1_7_9 rfl ?hyr1_7_9 hH5 ?restr1_7_9
   case hyr1_7_9=>intro w q;(try dsimp only at q);go_simp;(try with_reducible rfl)
   (try simp only [aP])
   obtain ⟨c0,c1,c2,c3,c4,cz⟩:=HSX.out.cells
   refine wpAnyH_ready (rs:=[10]) (by kernel_rfl) (by simp) ?_
   refine AllReadyH.cons (o:=⟨none,_,_,_,_,_⟩) rfl (fun K hK=>?_) AllReadyH.nil
   go_simp
   refine hK.out _ _ HS7.out (fun hH6=>?_)
   clear hK K hH5 c0 c1 c2 c3 c4 cz
   (try simp only [aP])
   refine wpAnyH_done (by kernel_rfl) ?_ _
   refine ⟨vxa,vxn,vxc,wd.heap.size,?_,HCX.out,(fF HPD.out HKX.out HTG.out HTO.out HTN.out).2,HKD.out.trans HKX.out,zMf HPD.out HKX.out HTO.out,HTN.out⟩
   kernel_rfl
  case q1B =>
   go_simp
   refine hK.out _ (wd.alloc (.cells #[.int .u8 (pk:Int),.int .i64 pn,.string pw] 38)) HSA.out (fun hH2=>?_)
   clear hK K hHeld
   (try simp only [aP])
   refine wpAnyH_ready (rs:=[4]) (by kernel_rfl) (by simp) ?_
   refine AllReadyH.cons (o:=⟨some 17,_,_,_,_,_⟩) rfl (fun K hK=>?_) AllReadyH.nil
   obtain ⟨c0,c1,c2,c3,c4,cz⟩:=HDA.out.s.cells
   go_simp
   clear c0 c1 c2 c3 c4 cz
   refine hK.out _ _ hH2 (fun hH3=>?_)
   clear hK K hH2
   (try simp only [aP])
   refine wpAnyH_ready (rs:=[7]) (by kernel_rfl) (by simp) ?_
   refine AllReadyH.cons (o:=⟨some 20,_,_,_,_,_⟩) rfl (fun K hK=>?_) AllReadyH.nil
   rw [if_pos (by kernel_rfl)]
   obtain ⟨vx,w6,hr,hsx,hcx,hkx⟩:=HD.out.part (pk,pn,pw) (by omega)
   obtain ⟨vxa,vxn,vxc,rfl⟩:=zC hcx.o
   have HSX:=Hd hsx
   have HCX:=Hd hcx
   have HKX:=Hd hkx
   have HS6:=Hd (pk3 (fF HPD.out hkx HTG.out HTO.out HTN.out).1)
   have HS7:=Hd (pk3 (fF HPD.out hkx HTG.out HTO.out HTN.out).2)
   clear hsx hcx hkx
   refine zY _ _ _ _ hr rfl rfl rfl rfl ?_
   refine hK.out _ _ HS6.out (fun hH5=>?_)
   clear hK K hr hH3
   (try simp only [aP])
   refine tkH 8 21 ?vr1_8_8 rfl ?hyr1_8_8 hH5 ?restr1_8_8
   case hyr1_8_8=>intro w q;(try dsimp only at q);go_simp;(try with_reducible rfl)
   (try simp only [aP])
   refine tkH 9 22 ?vr1_9_9 rfl ?hyr1_9_9 hH5 ?restr1_9_9
   case hyr1_9_9=>intro w q;(try dsimp only at q);go_simp;(try with_reducible rfl)
   (try simp only [aP])
   obtain ⟨c0,c1,c2,c3,c4,cz⟩:=HSX.out.cells
   refine wpAnyH_ready (rs:=[10]) (by kernel_rfl) (by simp) ?_
   refine AllReadyH.cons (o:=⟨none,_,_,_,_,_⟩) rfl (fun K hK=>?_) AllReadyH.nil
   go_simp
   refine hK.out _ _ HS7.out (fun hH6=>?_)
   clear hK K hH5 c0 c1 c2 c3 c4 cz
   (try simp only [aP])
   refine wpAnyH_done (by kernel_rfl) ?_ _
   refine ⟨vxa,vxn,vxc,wd.heap.size,?_,HCX.out,(fF HPD.out HKX.out HTG.out HTO.out HTN.out).2,HKD.out.trans HKX.out,zMf HPD.out HKX.out HTO.out,HTN.out⟩
   kernel_rfl
 rintro _ w2 ⟨v2a,v2n,v2c,gb,rfl,hc2,hp2,hk2,ho2,hn2⟩
 have HC2:=Hd hc2;have HP2:=Hd hp2;have HK2:=Hd hk2;have HTO2:=Hd ho2;have HTN2:=Hd hn2
 clear hc2 hp2 hk2 ho2 hn2 HC1 HP1 HK1
 (try simp only [aP])
 go_upto_region 2 with (fail)
 refine fE (fun a a' w'=>∃ (va:Option Addr) (vn vc gb:Nat),a'=(((((((((((((((((((a.put (some 23) (.pointer (some ⟨E.g,0,none⟩))).put (some 24) (.pointer (some ⟨E.g,0,none⟩))).put (some 25) (.pointer (some ⟨E.g,0,none⟩))).put (some 26) (.pointer (some ⟨E.g,3,none⟩))).put (some 27) nv).put (some 28) (.pointer (some ⟨E.g,0,none⟩))).put (some 29) (.pointer (some ⟨E.g,0,none⟩))).put (some 30) (.pointer (some ⟨E.g,1,none⟩))).put (some 31) (.slice (some ⟨fb,fo,none⟩) E.fr.length fc)).put (some 32) (.pointer (some ⟨E.g,0,none⟩))).put (some 33) (.pointer (some ⟨E.g,0,none⟩))).put (some 34) (.pointer (some ⟨E.g,4,none⟩))).put (some 35) (.int .i64 (i:Int))).put (some 36) (.pointer (some ⟨fb,fo+i,none⟩))).put (some 37) (.int .i64 fz)).put (some 38) (.slice (some ⟨gb,0,none⟩) 1 1)).put (some 39) (.slice va vn vc)).put (some 40) (.pointer (some ⟨E.g,0,none⟩))).put (some 41) (.pointer (some ⟨E.g,3,none⟩)))∧CpIn w0 E (out++[(pk,pn,pw)]) (ns++[fz]) i (.slice v2a v2n v2c) (.slice va vn vc) w'∧PK w' W.heap.size (pk,pn,pw)∧KpC E.g ov nv (.slice v2a v2n v2c) (.slice va vn vc) W w') ?_ ?_
 ·refine wp_region_held_drew (S:=fun W'=>W'.cell? ⟨E.g,1,none⟩=some (.slice (some ⟨fb,fo,none⟩) E.fr.length fc)∧W'.cell? ⟨E.g,4,none⟩=some (.int .i64 (i:Int))∧W'.cell? ⟨fb,fo+i,none⟩=some (.int .i64 fz)) (by kernel_rfl) (HSF.out _ _ _ _ _ (HC2.out.below (Below.refl _ _).drew)) (fun hHeld=>?_)
  have HD:=Hd (HC2.out.below (Below.refl _ _).drew);have HPD:=Hd (HP2.out.keep (Below.refl _ _).drew);have HKD:=Hd (HK2.out.trans (KpC.of_below (Below.refl _ _).drew));clear HC2 HP2 HK2;generalize w2.drew=wd at *
  refine tkH 0 23 ?vr2_1_0 rfl ?hyr2_1_0 hHeld ?restr2_1_0
  case hyr2_1_0=>intro w q;(try dsimp only at q);go_simp;(try with_reducible rfl)
  (try simp only [aP])
  refine tkH 1 24 ?vr2_2_1 rfl ?hyr2_2_1 hHeld ?restr2_2_1
  case hyr2_2_1=>intro w q;(try dsimp only at q);go_simp;(try with_reducible rfl)
  (try simp only [aP])
  refine tkH 2 25 ?vr2_3_2 rfl ?hyr2_3_2 hHeld ?restr2_3_2
  case hyr2_3_2=>intro w q;(try dsimp only at q);go_simp;(try with_reducible rfl)
  (try simp only [aP])
  refine tkH 3 26 ?vr2_4_3 rfl ?hyr2_4_3 hHeld ?restr2_4_3
  case hyr2_4_3=>intro w q;(try dsimp only at q);go_simp;(try with_reducible rfl)
  (try simp only [aP])
  refine tkH 5 28 ?vr2_5_5 rfl ?hyr2_5_5 hHeld ?restr2_5_5
  case hyr2_5_5=>intro w q;(try dsimp only at q);go_simp;(try with_reducible rfl)
  (try simp only [aP])
  refine tkH 6 29 ?vr2_6_6 rfl ?hyr2_6_6 hHeld ?restr2_6_6
  case hyr2_6_6=>intro w q;(try dsimp only at q);go_simp;(try with_reducible rfl)
  (try simp only [aP])
  refine tkH 7 30 ?vr2_7_7 rfl ?hyr2_7_7 hHeld ?restr2_7_7
  case hyr2_7_7=>intro w q;(try dsimp only at q);go_simp;(try with_reducible rfl)
  (try simp only [aP])
  refine tkH 8 31 ?vr2_8_8 rfl ?hyr2_8_8 hHeld ?restr2_8_8
  case hyr2_8_8=>intro w q;(try dsimp only at q);go_simp;(try with_reducible rfl)
  (try simp only [aP])
  refine tkH 9 32 ?vr2_9_9 rfl ?hyr2_9_9 hHeld ?restr2_9_9
  case hyr2_9_9=>intro w q;(try dsimp only at q);go_simp;(try with_reducible rfl)
  (try simp only [aP])
  refine tkH 10 33 ?vr2_10_10 rfl ?hyr2_10_10 hHeld ?restr2_10_10
  case hyr2_10_10=>intro w q;(try dsimp only at q);go_simp;(try with_reducible rfl)
  (try simp only [aP])
  refine tkH 11 34 ?vr2_11_11 rfl ?hyr2_11_11 hHeld ?restr2_11_11
  case hyr2_11_11=>intro w q;(try dsimp only at q);go_simp;(try with_reducible rfl)
  (try simp only [aP])
  refine tkH 12 35 ?vr2_12_12 rfl ?hyr2_12_12 hHeld ?restr2_12_12
  case hyr2_12_12=>intro w q;(try dsimp only at q);go_simp;(try with_reducible rfl)
  (try simp only [aP])
  refine tkH 13 36 ?vr2_13_13 rfl ?hyr2_13_13 hHeld ?restr2_13_13
  case hyr2_13_13=>intro w q;(try dsimp only at q);go_simp;(try with_reducible rfl)
  (try simp only [aP])
  refine tkH 14 37 ?vr2_14_14 rfl ?hyr2_14_14 hHeld ?restr2_14_14
  case hyr2_14_14=>intro w q;(try dsimp only at q);go_simp;(try with_reducible rfl)
  (try simp only [aP])
  have HSA:=Hd (HSF.out _ _ _ _ _ (HD.out.below ((Below.refl wd.heap.size wd).alloc (Nat.le_refl _) (.cells #[.int .i64 fz] 3))))
  have HDA:=Hd (HD.out.below ((Below.refl wd.heap.size wd).alloc (Nat.le_refl _) (.cells #[.int .i64 fz] 3)))
  refine wpAnyH_ready (rs:=[4,15]) (by kernel_rfl) (by simp) ?_
  refine AllReadyH.cons (o:=⟨some 27,_,_,_,_,_⟩) rfl (fun K hK=>?q2A) (AllReadyH.cons (o:=⟨some 38,_,_,_,_,_⟩) rfl (fun K hK=>?q2B) AllReadyH.nil)
  case q2A =>
   obtain ⟨c0,c1,c2,c3,c4,cz⟩:=HD.out.s.cells
   go_simp
   clear c0 c1 c2 c3 c4 cz
   refine hK.out _ _ hHeld (fun hH2=>?_)
   clear hK K hHeld
   (try simp only [aP])
   refine wpAnyH_ready (rs:=[15]) (by kernel_rfl) (by simp) ?_
   refine AllReadyH.cons (o:=⟨some 38,_,_,_,_,_⟩) rfl (fun K hK=>?_) AllReadyH.nil
   go_simp
   refine hK.out _ (wd.alloc (.cells #[.int .i64 fz] 3)) HSA.out (fun hH3=>?_)
   clear hK K hH2
   (try simp only [aP])
   refine wpAnyH_ready (rs:=[16]) (by kernel_rfl) (by simp) ?_
   refine AllReadyH.cons (o:=⟨some 39,_,_,_,_,_⟩) rfl (fun K hK=>?_) AllReadyH.nil
   rw [if_pos (by kernel_rfl)]
   obtain ⟨vx,w6,hr,hsx,hcx,hkx⟩:=HD.out.num fz (by have:=hNS.out;omega)
   obtain ⟨vxa,vxn,vxc,rfl⟩:=zC hcx.f
   have HSX:=Hd hsx
   have HCX:=Hd hcx
   have HKX:=Hd hkx
   have HS6:=Hd (HSG.out _ _ _ _ hsx hcx.b)
   have HS7:=Hd (HSF.out _ _ _ _ _ hcx)
   clear hsx hcx hkx
   refine zY _ _ _ _ hr rfl rfl rfl rfl ?_
   refine hK.out _ _ HS6.out (fun hH5=>?_)
   clear hK K hr hH3
   (try simp only [aP])
   refine tkH 17 40 ?vr2_15_17 rfl ?hyr2_15_17 hH5 ?restr2_15_17
   case hyr2_15_17=>intro w q;(try dsimp only at q);go_simp;(try with_reducible rfl)
   (try simp only [aP])
   refine tkH 18 41 ?vr2_16_18 rfl ?hyr2_16_18 hH5 ?restr2_16_18
   case hyr2_16_18=>intro w q;(try dsimp only at q);go_simp;(try with_reducible rfl)
   (try simp only [aP])
   obtain ⟨c0,c1,c2,c3,c4,cz⟩:=HSX.out.cells
   refine wpAnyH_ready (rs:=[19]) (by kernel_rfl) (by simp) ?_
   refine AllReadyH.cons (o:=⟨none,_,_,_,_,_⟩) rfl (fun K hK=>?_) AllReadyH.nil
   go_simp
   refine hK.out _ _ HS7.out (fun hH6=>?_)
   clear hK K hH5 c0 c1 c2 c3 c4 cz
   (try simp only [aP])
   refine wpAnyH_done (by kernel_rfl) ?_ _
   refine ⟨vxa,vxn,vxc,wd.heap.size,?_,HCX.out,(fF HPD.out HKX.out HTG.out HTO2.out HTN2.out).2,HKD.out.trans HKX.out⟩
   kernel_rfl
  case q2B =>
   go_simp
   refine hK.out _ (wd.alloc (.cells #[.int .i64 fz] 3)) HSA.out (fun hH2=>?_)
   clear hK K hHeld
   (try simp only [aP])
   refine wpAnyH_ready (rs:=[4]) (by kernel_rfl) (by simp) ?_
   refine AllReadyH.cons (o:=⟨some 27,_,_,_,_,_⟩) rfl (fun K hK=>?_) AllReadyH.nil
   obtain ⟨c0,c1,c2,c3,c4,cz⟩:=HDA.out.s.cells
   go_simp
   clear c0 c1 c2 c3 c4 cz
   refine hK.out _ _ hH2 (fun hH3=>?_)
   clear hK K hH2
   (try simp only [aP])
   refine wpAnyH_ready (rs:=[16]) (by kernel_rfl) (by simp) ?_
   refine AllReadyH.cons (o:=⟨some 39,_,_,_,_,_⟩) rfl (fun K hK=>?_) AllReadyH.nil
   rw [if_pos (by kernel_rfl)]
   obtain ⟨vx,w6,hr,hsx,hcx,hkx⟩:=HD.out.num fz (by have:=hNS.out;omega)
   obtain ⟨vxa,vxn,vxc,rfl⟩:=zC hcx.f
   have HSX:=Hd hsx
   have HCX:=Hd hcx
   have HKX:=Hd hkx
   have HS6:=Hd (HSG.out _ _ _ _ hsx hcx.b)
   have HS7:=Hd (HSF.out _ _ _ _ _ hcx)
   clear hsx hcx hkx
   refine zY _ _ _ _ hr rfl rfl rfl rfl ?_
   refine hK.out _ _ HS6.out (fun hH5=>?_)
   clear hK K hr hH3
   (try simp only [aP])
   refine tkH 17 40 ?vr2_17_17 rfl ?hyr2_17_17 hH5 ?restr2_17_17
   case hyr2_17_17=>intro w q;(try dsimp only at q);go_simp;(try with_reducible rfl)
   (try simp only [aP])
   refine tkH 18 41 ?vr2_18_18 rfl ?hyr2_18_18 hH5 ?restr2_18_18
   case hyr2_18_18=>intro w q;(try dsimp only at q);go_simp;(try with_reducible rfl)
   (try simp only [aP])
   obtain ⟨c0,c1,c2,c3,c4,cz⟩:=HSX.out.cells
   refine wpAnyH_ready (rs:=[19]) (by kernel_rfl) (by simp) ?_
   refine AllReadyH.cons (o:=⟨none,_,_,_,_,_⟩) rfl (fun K hK=>?_) AllReadyH.nil
   go_simp
   refine hK.out _ _ HS7.out (fun hH6=>?_)
   clear hK K hH5 c0 c1 c2 c3 c4 cz
   (try simp only [aP])
   refine wpAnyH_done (by kernel_rfl) ?_ _
   refine ⟨vxa,vxn,vxc,wd.heap.size,?_,HCX.out,(fF HPD.out HKX.out HTG.out HTO2.out HTN2.out).2,HKD.out.trans HKX.out⟩
   kernel_rfl
 rintro _ w3 ⟨v3a,v3n,v3c,gc,rfl,hc3,hp3,hk3⟩
 have HC3:=Hd hc3;have HP3:=Hd hp3;have HK3:=Hd hk3
 clear hc3 hp3 hk3 HC2 HP2 HK2 HTO2 HTN2 HTO HTN HI
 (try simp only [aP])
 have HC4:Hid (CpIn w0 E (out++[(pk,pn,pw)]) (ns++[fz]) (i+1) (.slice v2a v2n v2c) (.slice v3a v3n v3c) (w3.setCell ⟨E.g,4,none⟩ (.int .i64 ((i:Int)+1)))):=Hd (by
  have h:=HC3.out.step (i+1)
  rwa [show (((i+1:Nat)):Int)=(i:Int)+1 from by push_cast;rfl] at h)
 have HK4:=Hd (HK3.out.setG 4 (.int .i64 ((i:Int)+1)))
 have HP4:Hid (PK (w3.setCell ⟨E.g,4,none⟩ (.int .i64 ((i:Int)+1))) W.heap.size (pk,pn,pw)):=Hd (by
  have h:=HP3.out
  unfold PK at *
  rw [heap_setCell_other _ _ _ _ HTG.out];exact h)
 obtain ⟨c0,c1,c2,c3,c4,cz⟩:=HC3.out.s.cells
 go_upto_region 4 with (fail)
 clear c0 c1 c2 c3 c4 cz HC3 HP3 HK3
 generalize w3.setCell ⟨E.g,4,none⟩ (.int .i64 ((i:Int)+1))=w4 at *
 have p0:=HP4.out.c0;have p1:=HP4.out.c1;have p2:=HP4.out.c2
 simp only [] at p0 p1 p2
 go_wp2_with fail
 refine (HEI.out w4 _ _ _ _ HC4.out hil (by have:=hFU.out;omega) (by have:=hLN.out;simp only [List.length_append,List.length_singleton];omega) (by have:=hNS.out;simp only [List.length_append,List.length_singleton];omega)).mono ?_
 intro e w5 hp
 unfold cpPost at hp
 obtain ⟨ov5,nv5,v5,rfl,hc5,hk5⟩:=hp
 have HZ:Hid (∀ v,cpPost w0 E out ns ov nv (pnAt E.l E.fr i::gKids E.l E.fr n (pk,pn,pw) 0 (i+1) (zA E.l i)) (zA E.l i) W (.returned v) w5):=Hd fun v=>by
  unfold cpPost
  refine ⟨ov5,nv5,v,rfl,?_,HK4.out.trans hk5⟩
  rw [hpn'.out]
  simpa [List.append_assoc] using hc5
 clear hc5 hk5 p0 p1 p2
 go_wp2_with fail
 go_end0
 exact HZ.out _
end Go.Proofs.YtfalelkfhandfaaGreatDoor
namespace Go.Proofs.YtfalelkfhandfaaGreatDoor
set_option linter.all false
open Go Go.RowKit

theorem fV {W:World} {B B':Nat} {e:TypeId} {size n:Nat} {v:Value} {xs:List Value} (h:W.ownsRow B e size v n xs) (hB:B'≤B):W.ownsRow B' e size v n xs:=by
 obtain ⟨h1,h2⟩:=h
 refine ⟨h1,?_⟩
 rcases h2 with h2 | ⟨g,cap,cur,a1,a2,a3⟩
 ·exact Or.inl h2
 ·exact Or.inr ⟨g,cap,cur,a1,Nat.le_trans hB a2,a3⟩
end Go.Proofs.YtfalelkfhandfaaGreatDoor
