/- A store into a map by its run equation. -/
import Derived.Test.YtbjkdmbcpkopjaaGreatDoorChkPMt
import Derived.Test.YtbjkdmbcpkopjaaGreatDoorCheckBMt
import Derived.Test.YtbjkdmbcpkopjaaGreatDoorTermMt
import Derived.Test.YtbjkdmbcpkopjaaGreatDoorQuoted2Mt
import Derived.Test.YtbjkdmbcpkopjaaGreatDoorCoreMt
import Derived.Test.YtbjkdmbcpkopjaaGreatDoorMatchPMt
import Derived.Test.YtbjkdmbcpkopjaaGreatDoorStillMt
import Derived.Deep.RegionHeld3
import Derived.Test.YtbjkdmbcpkopjaaGreatDoorUntilMt
import Derived.Test.YtbjkdmbcpkopjaaGreatDoorU8Mt
import Derived.Deep.RegionWith
namespace Go.Proofs.YtbjkdmbcpkopjaaGreatDoor
set_option linter.all false
theorem yP {P:Program} {w w':World} {ops:Array Oper} {rest:List Oper} {o:Oper} {a:Act} {Q:Exit→Act→World→Prop}
  (hg:o.guard=none) (m x v:Operand) (t:TypeId) {mv key val:Value} (hrun:(Instr.mapUpdate t mv key val).run P w=.ok () w') (hop:o.op=Op.mapUpdate t m x v)
  (hm:a.eval m=mv) (hx:a.eval x=key) (hv:a.eval v=val) (hK:wpList P ops Q rest (a.put o.dst undef) w'):wpList P ops Q (o::rest) a w:=by
 refine wpList_plain hg fun K' hK'=>?_;unfold Oper.wp;simp [execOp,hop,hm,hx,hv,hrun,Result.andThen];exact hK' _ _ hK
def wL1:List (List UInt8):=[[124,124]]
def wL2:List (List UInt8):=[[38,38]]
def wL3:List (List UInt8):=[[61,61],[33,61],[60],[60,61],[62],[62,61]]
def wL4:List (List UInt8):=[[43],[45],[124],[94]]
def wL5:List (List UInt8):=[[42],[47],[37],[60,60],[62,62],[38],[38,94]]
def lvW (w:ByteArray):Nat:=if w.toList∈wL1 then 1 else if w.toList∈wL2 then 2 else if w.toList∈wL3 then 3 else if w.toList∈wL4 then 4 else if w.toList∈wL5 then 5 else 1
def zCb (p:Prt):Nat:=if p.1=36∨p.1=35 then 6 else if p.1=37 then lvW p.2.2 else 7
def looseZ (p:Prt) (nth:Nat) (kid:Prt):Bool :=
 if p.1=37 then (decide (nth=0)&&decide (zCb kid<zCb p)) || (decide (nth=1)&&decide (zCb kid≤zCb p))
 else if p.1=35∨p.1=36 then decide (zCb kid<6)
 else if 29≤p.1∧p.1≤34 then decide (nth=0)&&decide (zCb kid<7)
 else if p.1=61 then decide (nth=2)&&decide (zCb kid<7)
 else false
abbrev PN:=Prt×Int
def paren:PN:=((28,1,ByteArray.empty),-1)
def brk (p:Prt) (nth:Nat) (kid:Prt):List PN:=if looseZ p nth kid then [paren] else []
section
variable (l:List Prt) (from':List Int)
def pnAt (i:Nat):PN:=(l.getD i (0,0,ByteArray.empty),from'.getD i 0)
def yCg (i:Nat):Prt:=l.getD i (0,0,ByteArray.empty)
mutual
def gPart:Nat→Nat→List PN
 | 0,_=>[]
 | n+1,i=>pnAt l from' i::gKids n (yCg l i) 0 (i+1) (zB l i)
def gKids:Nat→Prt→Nat→Nat→Nat→List PN
 | 0,_,_,_,_=>[]
 | n+1,p,nth,k,stop=>if k=stop then [] else brk p nth (yCg l k)++(gPart n k++gKids n p (nth+1) (zB l k) stop)
end
variable {l}
variable (l)
end
section
variable (l:List Prt) (from':List Int)
end
attribute [local irreducible] Calls
open Go.RowKit
end Go.Proofs.YtbjkdmbcpkopjaaGreatDoor
namespace Go.Proofs.YtbjkdmbcpkopjaaGreatDoor
set_option linter.all false
open Go.RowKit

structure HeldM (w:World):Prop where
 T:Tabs w
 M:MaxC w
@[irreducible] def AnswersM (w:World) (e:Ending) (w':World):Prop:=e=.returned (.bool true)∧Below w.heap.size w w'
theorem AnswersM.mk {w w':World} (h:Below w.heap.size w w'):AnswersM w (.returned (.bool true)) w':=by unfold AnswersM;exact ⟨rfl,h⟩
theorem AnswersM.out {w w':World} {e:Ending} (h:AnswersM w e w'):e=.returned (.bool true)∧Below w.heap.size w w':=by unfold AnswersM at h;exact h
theorem zWi:Tryz.prog.underlying 25=some (.slice (Tryz.prog.elem 25)):=by kernel_rfl
theorem zJa (w:World):(sizeOf (Tryz.prog.elem 25)).run Tryz.prog w=.ok 3 w:=by
 have h:(Tryz.prog.info? (Tryz.prog.elem 25)).map (·.size)=some 3:=by kernel_rfl
 cases hq:Tryz.prog.info? (Tryz.prog.elem 25) with
 | none=>rw [hq] at h;cases h
 | some i =>
  rw [hq] at h;simp only [Option.map_some,Option.some.injEq] at h;simp [sizeOf,typeInfo,hq,h]
theorem zMe (l:List Prt) (lo:Nat) (i:Nat) (h:lo≤l.length):(yF (l.drop lo))[i]?=(yF l)[lo*3+i]?:=by
 have:=kZ (l.take lo) (l.drop lo);rw [List.take_append_drop] at this;rw [this,List.getElem?_append_right (by rw [vN,List.length_take];omega),vN,List.length_take,Nat.min_eq_left h]
 congr 1;omega
theorem kD (w:World) (v:Value) (l:List Prt) (hr:zF w v l) (lo hi:Nat) (h1:lo≤hi) (h2:hi≤l.length) :
  ∃ p cap,(∀ w',(Instr.slice 25 v (some (.int .i64 (lo:Int))) (some (.int .i64 (hi:Int))) none).run Tryz.prog w'=.ok (.slice p (hi-lo) cap) w')∧zF w (.slice p (hi-lo) cap) (piece l lo hi):=by
 obtain ⟨a,cap,rfl,hc⟩:=hr.slice;have hlen:(piece l lo hi).length=hi-lo:=by unfold piece;rw [List.length_take,List.length_drop];omega
 refine ⟨if cap=lo then a else a.map (·.add (lo*3)),cap-lo,fun w'=>?_,?_⟩
 ·rw [run_slice_lh w' _ _ _ _ zWi .i64 .i64 (lo:Int) (hi:Int) (by omega) (by omega) (by omega),zJa];simp only [Result.andThen,sliced,Int.toNat_natCast]
 ·unfold zF;rw [hlen];refine ⟨by rw [vN,hlen],_,_,rfl,by omega,fun e=>?_,fun hpos=>?_⟩
  ·by_cases h:cap=lo
   ·omega
   ·rw [iN h] at e;have:a=none:=by cases a with
     | none=>rfl
     | some x=>cases e
    obtain ⟨_,a',cap',hv,hc',hz,_⟩:=hr;simp only [Value.slice.injEq] at hv;obtain ⟨rfl,_,rfl⟩:=hv;have:=hz this;omega
  ·obtain ⟨b,off,rfl,_,_,hbl,_⟩:=hr.at (bR _ _) (show 0<l.length by omega);rw [iN (by omega)];refine ⟨b,off+lo*3,by simp [Addr.add],hbl,fun i hi'=>?_⟩;obtain ⟨_,a',cap',hv,_,_,hcell⟩:=hr;simp only [Value.slice.injEq] at hv;obtain ⟨e1,_,_⟩:=hv;obtain ⟨b',off',e2,_,hc2⟩:=hcell (by omega);rw [← e1] at e2;simp only [Option.some.injEq,Addr.mk.injEq,and_true] at e2;obtain ⟨rfl,rfl⟩:=e2;rw [Nat.add_assoc,hc2 _ (by omega)];unfold piece;have h5:=kZ ((l.drop lo).take (hi-lo)) ((l.drop lo).drop (hi-lo));rw [List.take_append_drop] at h5;have h6:(yF ((l.drop lo).take (hi-lo)))[i]?=(yF (l.drop lo))[i]?:=by
    rw [h5,List.getElem?_append_left (by rw [vN,List.length_take,List.length_drop];omega)]
   rw [h6,zMe l lo i (by omega)]
set_option maxRecDepth 100000
set_option maxHeartbeats 32000000
attribute [local irreducible] Calls
theorem yBv (E:SkE) (ok:SkOK E) (w:World) (hi:SkFix E w) (n1 n2:ByteArray) (a1 b1 a2 b2:Nat) (h1:a1≤b1) (h1':b1≤E.l.length) (h2:a2≤b2) (h2':b2≤E.l.length) :
  Calls Tryz.prog 114 #[.pointer (some ⟨E.g,0,none⟩),.agg #[.string n1,.int .i64 (a1:Int),.int .i64 (b1:Int)],.agg #[.string n2,.int .i64 (a2:Int),.int .i64 (b2:Int)]] w
   fun e w'=>∃ x,e=.returned (.bool x)∧TellsEq x (piece E.l a1 b1) (piece E.l a2 b2)∧Below w.heap.size w w':=by
 have HQ:Hid (∀ x w',TellsEq x (piece E.l a1 b1) (piece E.l a2 b2)→Below w.heap.size w w'→(fun (e:Ending) w'=>∃ x,e=.returned (.bool x)∧TellsEq x (piece E.l a1 b1) (piece E.l a2 b2)∧Below w.heap.size w w') (.returned (.bool x)) w'):=Hd fun x w' h h2=>⟨x,rfl,h,h2⟩
 generalize (fun (e:Ending) w'=>∃ x,e=.returned (.bool x)∧TellsEq x (piece E.l a1 b1) (piece E.l a2 b2)∧Below w.heap.size w w')=Q at *;have hll:=ok.ll;have c1:=hi.cells.2.1;have hgs:E.g<w.heap.size:=lt_of_block hi.s;obtain ⟨p1,k1,s1,r1⟩:=kD w E.vl E.l hi.l a1 b1 h1 h1';obtain ⟨p2,k2,s2,r2⟩:=kD w E.vl E.l hi.l a2 b2 h2 h2';have hl1:(piece E.l a1 b1).length≤1000000000:=by unfold piece;rw [List.length_take,List.length_drop];omega
 have hl2:(piece E.l a2 b2).length≤1000000000:=by unfold piece;rw [List.length_take,List.length_drop];omega
 have CS:=Hd (fun W (hb:Below w.heap.size w W)=>zWo _ _ _ _ hl1 hl2 W (r1.below hb) (r2.below hb));generalize piece E.l a1 b1=P1 at *;generalize piece E.l a2 b2=P2 at *;have HB:Hid (Below w.heap.size w ((w.alloc (.cells #[.string n1,.int .i64 (a1:Int),.int .i64 (b1:Int)] 46)).alloc (.cells #[.string n2,.int .i64 (a2:Int),.int .i64 (b2:Int)] 46))):=Hd (((bR _ _).alloc (nR _) _).alloc (by simp) _);have HBd:=Hd HB.out.drew;clear hi r1 r2;go_enter Tryz.func114,Tryz.ntmps114;go_wp2_with fail;have e1:((w.alloc (.cells #[.string n1,.int .i64 (a1:Int),.int .i64 (b1:Int)] 46)).alloc (.cells #[.string n2,.int .i64 (a2:Int),.int .i64 (b2:Int)] 46)).cell? ⟨E.g,1,none⟩=some E.vl:=by rw [HB.out.cell (p:=⟨E.g,1,none⟩) hgs];exact c1
 have x1:((w.alloc (.cells #[.string n1,.int .i64 (a1:Int),.int .i64 (b1:Int)] 46)).alloc (.cells #[.string n2,.int .i64 (a2:Int),.int .i64 (b2:Int)] 46)).cell? ⟨w.heap.size,1,none⟩=some (.int .i64 (a1:Int)):=by
  rw [World.cell?_alloc_past _ _ _ (by simp)];exact World.cell?_alloc_at _ _ _ _ rfl
 have x2:((w.alloc (.cells #[.string n1,.int .i64 (a1:Int),.int .i64 (b1:Int)] 46)).alloc (.cells #[.string n2,.int .i64 (a2:Int),.int .i64 (b2:Int)] 46)).cell? ⟨w.heap.size,2,none⟩=some (.int .i64 (b1:Int)):=by
  rw [World.cell?_alloc_past _ _ _ (by simp)];exact World.cell?_alloc_at _ _ _ _ rfl
 have x3:((w.alloc (.cells #[.string n1,.int .i64 (a1:Int),.int .i64 (b1:Int)] 46)).alloc (.cells #[.string n2,.int .i64 (a2:Int),.int .i64 (b2:Int)] 46)).cell? ⟨w.heap.size+1,1,none⟩=some (.int .i64 (a2:Int)):=World.cell?_alloc_at _ _ _ _ (by simp);have x4:((w.alloc (.cells #[.string n1,.int .i64 (a1:Int),.int .i64 (b1:Int)] 46)).alloc (.cells #[.string n2,.int .i64 (a2:Int),.int .i64 (b2:Int)] 46)).cell? ⟨w.heap.size+1,2,none⟩=some (.int .i64 (b2:Int)):=World.cell?_alloc_at _ _ _ _ (by simp);have hz0:w.heap.size+1<((w.alloc (.cells #[.string n1,.int .i64 (a1:Int),.int .i64 (b1:Int)] 46)).alloc (.cells #[.string n2,.int .i64 (a2:Int),.int .i64 (b2:Int)] 46)).heap.size:=by simp
 generalize (w.alloc (.cells #[.string n1,.int .i64 (a1:Int),.int .i64 (b1:Int)] 46)).alloc (.cells #[.string n2,.int .i64 (a2:Int),.int .i64 (b2:Int)] 46)=W0 at *;have HZ:=Hd hz0;have HG:=Hd hgs;clear c1 hz0 hgs HB;generalize hss:w.heap.size=B at *;have HSS:=Hd hss;clear hss;have HK:Hid (∀ W,Below W0.drew.heap.size W0.drew W→W.cell? ⟨E.g,1,none⟩=some E.vl∧W.cell? ⟨B,1,none⟩=some (.int .i64 (a1:Int))∧W.cell? ⟨B,2,none⟩=some (.int .i64 (b1:Int))∧W.cell? ⟨B+1,1,none⟩=some (.int .i64 (a2:Int))∧W.cell? ⟨B+1,2,none⟩=some (.int .i64 (b2:Int))∧Hid (Below B w W)):=Hd fun W hb=>by
  have hz:B+1<W0.drew.heap.size:=HZ.out;have hg:E.g<W0.drew.heap.size:=by have:=HG.out;omega
  refine ⟨?_,?_,?_,?_,?_,Hd (HBd.out.trans (hb.mono (by omega)))⟩
  ·rw [hb.cell (p:=⟨E.g,1,none⟩) hg];exact e1
  ·rw [hb.cell (p:=⟨B,1,none⟩) (show B<_ by omega)];exact x1
  ·rw [hb.cell (p:=⟨B,2,none⟩) (show B<_ by omega)];exact x2
  ·rw [hb.cell (p:=⟨B+1,1,none⟩) hz];exact x3
  ·rw [hb.cell (p:=⟨B+1,2,none⟩) hz];exact x4
 go_region_held3 (fun W=>W.cell? ⟨E.g,1,none⟩=some E.vl∧W.cell? ⟨B,1,none⟩=some (.int .i64 (a1:Int))∧W.cell? ⟨B,2,none⟩=some (.int .i64 (b1:Int))∧W.cell? ⟨B+1,1,none⟩=some (.int .i64 (a2:Int))∧W.cell? ⟨B+1,2,none⟩=some (.int .i64 (b2:Int))∧Hid (Below B w W)) (first | exact ⟨e1,x1,x2,x3,x4,HBd⟩ | exact HK.out _ hb4) ((go_at_call 140;(with_reducible refine (CS.out _ HBd.out).mono ?_);(rintro e w4 ⟨x,rfl,hx,hb4⟩);(try dsimp only)))
 all_goals
  have HX:=Hd (HQ.out x w4 hx (HSS.out ▸ (HK.out _ hb4).2.2.2.2.2.out));clear hb4 hx;go_wp2_with fail;exact HX.out
theorem zDt {hs:List Hl} {σ:MSt} (h:σ.length=hs.length):(bindsOf hs σ).length=hs.length:=by unfold bindsOf;simp [h]
theorem zWg {hs:List Hl} {σ:MSt} {k:Nat} (hk:k<hs.length) (hn:σ.length=hs.length) {o:Option (Nat×Nat)} (ho:σ[k]?=some o):∃ hh:k<(bindsOf hs σ).length,(bindsOf hs σ)[k]=bindOf hs[k] o:=by
 refine ⟨by rw [zDt hn];exact hk,?_⟩;unfold bindsOf;rw [List.getElem_zipWith];rw [gE (by omega)] at ho;rw [Option.some.inj ho]
theorem SkIn.bindAt {E:SkE} {σ:MSt} {w:World} (h:SkIn E σ w) {k:Nat} (hk:k<E.hs.length) {o:Option (Nat×Nat)} (ho:σ[k]?=some o) :
  ∃ gb cb,E.vb=.slice (some ⟨gb,0,none⟩) E.hs.length cb∧E.hs.length≤cb∧E.B≤gb∧gb<w.heap.size∧w.cell? ⟨gb,k*3,none⟩=some (.string (E.hs[k]).1)∧w.cell? ⟨gb,k*3+1,none⟩=some (.int .i64 (bindOf E.hs[k] o).2.1)∧w.cell? ⟨gb,k*3+2,none⟩=some (.int .i64 (bindOf E.hs[k] o).2.2)∧∀ j,w.frozen? ⟨gb,j,none⟩=false:=by
 have hb:=h.b;rcases hb.2 with ⟨_,h0⟩ | ⟨gb,cb,cur,hv,hg,hh,hnc,_,_,_⟩
 ·omega
 ·rw [hv] at hb;obtain ⟨hh1,he⟩:=zWg hk h.n ho;have hc:∀ j,j<3→w.cell? ⟨gb,k*3+j,none⟩=(bindV (bindOf E.hs[k] o))[j]?:=fun j hj=>by
   rw [hb.cellAt _ (by omega)];unfold bindsV;rw [vO (g:=bindV) (sz:=3) (fun _=>rfl) _ k j hh1 hj,he]
  have hn:(bindOf E.hs[k] o).1=(E.hs[k]).1:=by cases o <;> rfl
  refine ⟨gb,cb,hv,hnc,hg,zG hh,?_,hc 1 (by omega),hc 2 (by omega),fun j=>by simp [World.frozen?,hh]⟩;have:=hc 0 (by omega);rw [Nat.add_zero] at this;rw [this];unfold bindV;rw [hn];rfl
theorem SkIn.boundAt {E:SkE} {σ:MSt} {w:World} (h:SkIn E σ w) {k:Nat} (hk:k<E.hs.length) {o:Option (Nat×Nat)} (ho:σ[k]?=some o) :
  ∃ gz cz,E.vz=.slice (some ⟨gz,0,none⟩) E.hs.length cz∧E.hs.length≤cz∧E.B≤gz∧gz<w.heap.size∧w.cell? ⟨gz,k,none⟩=some (.bool o.isSome)∧∀ j,w.frozen? ⟨gz,j,none⟩=false:=by
 have hb:=h.z;rcases hb.2 with ⟨_,h0⟩ | ⟨gz,cz,cur,hv,hg,hh,hnc,_,_,_⟩
 ·omega
 ·rw [hv] at hb;refine ⟨gz,cz,hv,hnc,hg,zG hh,?_,fun j=>by simp [World.frozen?,hh]⟩;rw [hb.cellAt _ (by omega)];unfold boundV;rw [List.getElem?_map,ho];rfl
theorem zKh {α:Type} {g:α→List Value} (hg:∀ x,(g x).length=3):∀ (l:List α) (k:Nat) (x:α) (a b c:Value),k<l.length→g x=[a,b,c]→(((l.flatMap g).set (k*3) a).set (k*3+1) b).set (k*3+2) c=(l.set k x).flatMap g
 | y::l,0,x,a,b,c,_,hx=>by
  have hy:=hg y;rw [List.flatMap_cons,List.set_cons_zero,List.flatMap_cons,hx];match hgy:g y,hy with
  | [p,q,r],_=>rfl
 | y::l,k+1,x,a,b,c,hk,hx=>by
  have hy:=hg y;rw [List.flatMap_cons,List.set_cons_succ,List.flatMap_cons];match hgy:g y,hy with
  | [p,q,r],_ =>
   rw [← zKh hg l k x a b c (by simpa using hk) hx];rw [show (k+1)*3=k*3+3 by omega,show k*3+3+1=k*3+1+3 by omega,show k*3+3+2=k*3+2+3 by omega];rfl
theorem zPc (hs:List Hl):∀ (σ:MSt) (k:Nat) (o:Option (Nat×Nat)) (hk:k<hs.length),σ.length=hs.length→bindsOf hs (σ.set k o)=(bindsOf hs σ).set k (bindOf hs[k] o):=by
 intro σ k o hk hn;unfold bindsOf;apply List.ext_getElem
 ·simp
 ·intro j h1 h2;rw [List.getElem_zipWith,List.getElem_set,List.getElem_set];by_cases e:k=j
  ·subst e;rw [iP rfl,iP rfl]
  ·rw [iN e,iN e,List.getElem_zipWith]
theorem SkIn.turn {E:SkE} {σ:MSt} {w w':World} (h:SkIn E σ w) {k:Nat} {o:Option (Nat×Nat)} (hr:∀ q,o=some q→q.1≤q.2∧q.2≤E.l.length) (hk:KeptX E w w') (hb:w'.ownsRow E.B 46 3 E.vb E.hs.length (bindsV (bindsOf E.hs (σ.set k o)))) (hz:w'.ownsRow E.B 4 1 E.vz E.hs.length (boundV (σ.set k o))):SkIn E (σ.set k o) w' :=
 ⟨h.st.keep hk,hb,hz,by rw [List.length_set];exact h.n,fun j q hq=>by
  by_cases e:k=j
  ·subst e;by_cases hl:k<σ.length
   ·rw [List.getElem?_set_self hl] at hq;exact hr q (Option.some.inj hq)
   ·rw [List.getElem?_eq_none (by simp;omega)] at hq;cases hq
  ·rw [List.getElem?_set_ne e] at hq;exact h.r j q hq⟩
theorem zSn (σ:MSt) (k:Nat) (o:Option (Nat×Nat)):boundV (σ.set k o)=(boundV σ).set k (.bool o.isSome):=by unfold boundV;rw [List.map_set]
theorem seekPost.bool {E:SkE} {o:Option MSt} {σ:MSt} {w w':World} {e:Ending} (h:seekPost E o σ w e w'):∃ y,e=.returned (.bool y):=by
 obtain ⟨_,⟨τ,_,he,_⟩ | ⟨_,he,_⟩⟩:=h.out
 ·exact ⟨true,he⟩
 ·exact ⟨false,he⟩
theorem zPd (E:SkE) (ok:SkOK E) (w:World) (σ:MSt) (hi:SkIn E σ w) (h:Nat) (hh:h<E.hs.length) (a b:Nat) (h1:a≤b) (h2:b≤E.l.length) (K:MSt→Option MSt) (tv:Value) (ht:ThenOK E K tv w) (q:Nat×Nat) (hq:σ[h]?=some (some q)) :
  Calls Tryz.prog 80 #[.pointer (some ⟨E.g,0,none⟩),.int .i64 (h:Int),.int .i64 (a:Int),.int .i64 (b:Int),tv] w (seekPost E ((bindS E.l σ h a b).bind K) σ w):=by
 have HQ:Hid (∀ e w',seekPost E ((bindS E.l σ h a b).bind K) σ w e w'→seekPost E ((bindS E.l σ h a b).bind K) σ w e w'):=Hd fun e w' h=>h;have hbs:bindS E.l σ h a b=if piece E.l q.1 q.2=piece E.l a b then some σ else none:=by unfold bindS;rw [hq]
 rw [hbs] at HQ ⊢;obtain ⟨Q,hQ⟩:∃ Q,seekPost E ((if piece E.l q.1 q.2=piece E.l a b then some σ else none).bind K) σ w=Q:=⟨_,rfl⟩;have HQ':Hid (∀ e w',seekPost E ((if piece E.l q.1 q.2=piece E.l a b then some σ else none).bind K) σ w e w'→Q e w'):=Hd fun e w' h=>by rw [← hQ];exact h
 rw [hQ];clear HQ hQ hbs;obtain ⟨k,cap,rfl,hcf,HT⟩:=ht;have hcf:=hcf cap;have HT:=Hd HT;obtain ⟨gb,cb,hvb,hcb,hB,hgb,b0,b1,b2,_⟩:=hi.bindAt hh hq;obtain ⟨gz,cz,hvz,hcz,hBz,hgz,z0,_⟩:=hi.boundAt hh hq;simp only [bindOf,Option.isSome_some] at b1 b2 z0;obtain ⟨q1,q2⟩:=q;simp only [] at b1 b2;have hqr:=hi.r h (q1,q2) hq;simp only [] at hqr;have hgs:E.g<w.heap.size:=lt_of_block hi.st.now.s;have c6:=hi.st.now.cells.2.2.2.2.2.2.1;have c7:=hi.st.now.cells.2.2.2.2.2.2.2;rw [hvb] at c6;rw [hvz] at c7;have hh0:(0:Int)≤(h:Int):=by omega
 have hhl:(h:Int)<E.hs.length:=by omega
 have hhn:=ok.hn;have HI:=Hd hi;have HB:Hid (Below w.heap.size w (w.alloc (.cells #[.string (E.hs[h]).1,.int .i64 (a:Int),.int .i64 (b:Int)] 46))):=Hd ((bR _ _).alloc (nR _) _);have CS:=Hd (fun W (hb:Below w.heap.size w W)=>yBv E ok W ((hi.below hb).st.now) (E.hs[h]).1 (E.hs[h]).1 q1 q2 a b hqr.1 hqr.2 h1 h2);clear hi;generalize (E.hs[h]).1=nm at *;go_enter Tryz.func80,Tryz.ntmps80;go_wp2_with fail;have x0:(w.alloc (.cells #[.string nm,.int .i64 (a:Int),.int .i64 (b:Int)] 46)).cell? ⟨w.heap.size,0,none⟩=some (.string nm):=World.cell?_alloc_at _ _ _ _ rfl;have x1:(w.alloc (.cells #[.string nm,.int .i64 (a:Int),.int .i64 (b:Int)] 46)).cell? ⟨w.heap.size,1,none⟩=some (.int .i64 (a:Int)):=World.cell?_alloc_at _ _ _ _ rfl;have x2:(w.alloc (.cells #[.string nm,.int .i64 (a:Int),.int .i64 (b:Int)] 46)).cell? ⟨w.heap.size,2,none⟩=some (.int .i64 (b:Int)):=World.cell?_alloc_at _ _ _ _ rfl;have e6:(w.alloc (.cells #[.string nm,.int .i64 (a:Int),.int .i64 (b:Int)] 46)).cell? ⟨E.g,6,none⟩=some (.slice (some ⟨gb,0,none⟩) E.hs.length cb):=by rw [HB.out.cell (p:=⟨E.g,6,none⟩) hgs];exact c6
 have y0:(w.alloc (.cells #[.string nm,.int .i64 (a:Int),.int .i64 (b:Int)] 46)).cell? ⟨gb,h*3,none⟩=some (.string nm):=by rw [HB.out.cell (p:=⟨gb,h*3,none⟩) hgb];exact b0
 have y1:(w.alloc (.cells #[.string nm,.int .i64 (a:Int),.int .i64 (b:Int)] 46)).cell? ⟨gb,h*3+1,none⟩=some (.int .i64 (q1:Int)):=by rw [HB.out.cell (p:=⟨gb,h*3+1,none⟩) hgb];exact b1
 have y2:(w.alloc (.cells #[.string nm,.int .i64 (a:Int),.int .i64 (b:Int)] 46)).cell? ⟨gb,h*3+2,none⟩=some (.int .i64 (q2:Int)):=by rw [HB.out.cell (p:=⟨gb,h*3+2,none⟩) hgb];exact b2
 have HZ:Hid (w.heap.size<(w.alloc (.cells #[.string nm,.int .i64 (a:Int),.int .i64 (b:Int)] 46)).heap.size):=Hd (by simp);have HBd:=Hd HB.out.drew;have HKd:Hid (KeptX E w (w.alloc (.cells #[.string nm,.int .i64 (a:Int),.int .i64 (b:Int)] 46)).drew):=Hd (KeptX.of_below HB.out.drew);have HNE:Hid (∀ B,w.heap.size≤B→some B≠E.vb.ownBlock∧some B≠E.vz.ownBlock):=Hd fun B hB=>by
  rw [hvb,hvz];simp only [Value.ownBlock,ne_eq,Option.some.injEq];exact ⟨by omega,by omega⟩
 have HNG:=Hd ok.nb;generalize w.alloc (.cells #[.string nm,.int .i64 (a:Int),.int .i64 (b:Int)] 46)=W0 at *;generalize hss:w.heap.size=B at *;have HSS:=Hd hss;have HZd:Hid (B≤W0.drew.heap.size):=Hd (Nat.le_of_lt HZ.out);have HGS:=Hd hgs;clear hss c6 c7 b0 b1 b2 z0 hvb hvz HB;have HS:Hid (∀ W,KeptX E W0.drew W→(fun W=>W.cell? ⟨E.g,6,none⟩=some (.slice (some ⟨gb,0,none⟩) E.hs.length cb)∧W.cell? ⟨B,0,none⟩=some (.string nm)∧W.cell? ⟨B,1,none⟩=some (.int .i64 (a:Int))∧W.cell? ⟨B,2,none⟩=some (.int .i64 (b:Int))∧Hid (KeptX E w W)) W):=Hd fun W hk=>by
  have hz:B<W0.drew.heap.size:=HZ.out;have hg:E.g<W0.drew.heap.size:=by have:=HGS.out;omega
  have hne:=HNE.out B (nR _);have hng:=HNG.out;refine ⟨?_,?_,?_,?_,Hd (HKd.out.trans hk)⟩
  ·rw [hk.cell hg hng.1 hng.2];exact e6
  ·rw [hk.cell hz hne.1 hne.2];exact x0
  ·rw [hk.cell hz hne.1 hne.2];exact x1
  ·rw [hk.cell hz hne.1 hne.2];exact x2
 by_cases hpe:piece E.l q1 q2=piece E.l a b
 ·have HPE:=Hd hpe;rw [iP hpe] at HQ';clear hpe;refine wp_region_noPanic ?_;refine wp_region_held_drew (S:=fun W=>W.cell? ⟨E.g,6,none⟩=some (.slice (some ⟨gb,0,none⟩) E.hs.length cb)∧W.cell? ⟨B,0,none⟩=some (.string nm)∧W.cell? ⟨B,1,none⟩=some (.int .i64 (a:Int))∧W.cell? ⟨B,2,none⟩=some (.int .i64 (b:Int))∧Hid (KeptX E w W)) (by kernel_rfl) (HS.out _ (KeptX.refl _ _)) (fun hHeldA=>?_);refine tH 0 _ hHeldA ?_;refine tH 1 _ hHeldA ?_;refine tH 2 _ hHeldA ?_;refine tH 3 _ hHeldA ?_;refine tH 4 _ hHeldA ?_;refine tH 5 _ hHeldA ?_;refine tH 6 _ hHeldA ?_;refine tH 8 _ hHeldA ?_;refine rH 7 _ fun K hK=>?_;go_simp;refine hK.out _ _ hHeldA (fun hHeldA_1=>?_);clear hK K hHeldA;(try simp only [qA,qL,qZ,qS])
  refine rH 9 _ fun K hK=>?_;go_simp
  go_at_call 114
  refine (CS.out _ (HSS.out ▸ HBd.out)).mono ?_;rintro e w5 ⟨x,rfl,hx,hb5⟩;obtain rfl:x=true:=hx.mpr HPE.out;have HK5:=Hd (KeptX.of_below (E:=E) (HSS.out ▸ HBd.out.trans (hb5.mono HZd.out)));(try dsimp only)
  refine hK.out _ _ (HS.out _ (KeptX.of_below hb5)) (fun hHeldA_2=>?_);clear hK K hHeldA_1;(try simp only [qA,qL,qZ,qS])
  refine tH 10 _ hHeldA_2 ?_;refine tH 11 _ hHeldA_2 ?_;refine rH 12 _ fun K hK=>?_;go_simp;refine (HT.out w5 σ HK5.out (HI.out.below (HSS.out ▸ HBd.out.trans (hb5.mono HZd.out)))).mono ?_;intro e w6 h6;obtain ⟨y,rfl⟩:=h6.bool;have HR6:=Hd (h6.from HK5.out);have HK6:=Hd h6.out.1;(try dsimp only)
  refine hK.out _ _ (HS.out _ ((KeptX.of_below hb5).trans HK6.out)) (fun hHeldA_3=>?_);clear hK K hHeldA_2;(try simp only [qA,qL,qZ,qS])
  refine tH 13 _ hHeldA_3 ?_;refine tH 14 _ hHeldA_3 ?_;refine wpAnyH_done (by kernel_rfl) ?_ _;refine NoPanic.normal ?_;have HX:=Hd (HQ'.out _ _ HR6.out);go_wp2_with fail;exact HX.out
 ·have HPE:=Hd hpe;rw [iN hpe] at HQ';clear hpe;refine wp_region_noPanic ?_;refine wp_region_held_drew (S:=fun W=>W.cell? ⟨E.g,6,none⟩=some (.slice (some ⟨gb,0,none⟩) E.hs.length cb)∧W.cell? ⟨B,0,none⟩=some (.string nm)∧W.cell? ⟨B,1,none⟩=some (.int .i64 (a:Int))∧W.cell? ⟨B,2,none⟩=some (.int .i64 (b:Int))∧Hid (KeptX E w W)) (by kernel_rfl) (HS.out _ (KeptX.refl _ _)) (fun hHeldB=>?_);refine tH 0 _ hHeldB ?_;refine tH 1 _ hHeldB ?_;refine tH 2 _ hHeldB ?_;refine tH 3 _ hHeldB ?_;refine tH 4 _ hHeldB ?_;refine tH 5 _ hHeldB ?_;refine tH 6 _ hHeldB ?_;refine tH 8 _ hHeldB ?_;refine rH 7 _ fun K hK=>?_;go_simp;refine hK.out _ _ hHeldB (fun hHeldB_1=>?_);clear hK K hHeldB;(try simp only [qA,qL,qZ,qS])
  refine rH 9 _ fun K hK=>?_;go_simp
  go_at_call 114
  refine (CS.out _ (HSS.out ▸ HBd.out)).mono ?_;rintro e w5 ⟨x,rfl,hx,hb5⟩;obtain rfl:x=false:=by cases x with
   | false=>rfl
   | true=>exact absurd (hx.mp rfl) HPE.out
  have HB5:=Hd (HBd.out.trans (hb5.mono HZd.out));(try dsimp only)
  refine hK.out _ _ (HS.out _ (KeptX.of_below hb5)) (fun hHeldB_2=>?_);clear hK K hHeldB_1;(try simp only [qA,qL,qZ,qS])
  refine tH 10 _ hHeldB_2 ?_;refine sH 11 _ hHeldB_2 ?_;refine rH 12 _ fun K hK=>?_;rw [iN]
  rotate_left
  ·exact fun h=>Bool.noConfusion (h.symm.trans (by kernel_rfl:_=false))
  refine hK.out _ _ hHeldB_2 (fun hHeldB_3=>?_);clear hK K hHeldB_2;(try simp only [qA,qL,qZ,qS])
  refine tH 13 _ hHeldB_3 ?_;refine tH 14 _ hHeldB_3 ?_;refine wpAnyH_done (by kernel_rfl) ?_ _;refine NoPanic.normal ?_;have HX:=Hd (HQ'.out _ _ (seekPost.no rfl (KeptX.of_below (HSS.out ▸ HB5.out)) (HI.out.below (HSS.out ▸ HB5.out))));go_wp2_with fail;exact HX.out
end Go.Proofs.YtbjkdmbcpkopjaaGreatDoor
namespace Go.Proofs.YtbjkdmbcpkopjaaGreatDoor
set_option linter.all false
open Go.RowKit

theorem KeptX.set {E:SkE} {w w':World} (h:KeptX E w w') {g j:Nat} (hg:some g=E.vb.ownBlock∨some g=E.vz.ownBlock) (v:Value):KeptX E w (w'.setCell ⟨g,j,none⟩ v) :=
 ⟨h.os,h.tape,h.output,by simp;exact h.size,fun k hk h1 h2=>by
  rw [heap_setCell_other _ _ _ _ (show k≠g by rintro rfl;rcases hg with e | e <;> contradiction)];exact h.block k hk h1 h2⟩
theorem SkIn.store {E:SkE} {σ:MSt} {w:World} (h:SkIn E σ w) (ne:E.vb.ownBlock=none∨E.vb.ownBlock≠E.vz.ownBlock) {k:Nat} (hk:k<E.hs.length) {o:Option (Nat×Nat)} (hr:∀ q,o=some q→q.1≤q.2∧q.2≤E.l.length) {gb cb gz cz:Nat} (hvb:E.vb=.slice (some ⟨gb,0,none⟩) E.hs.length cb) (hvz:E.vz=.slice (some ⟨gz,0,none⟩) E.hs.length cz) {v0 v1 v2:Value} (hv:bindV (bindOf E.hs[k] o)=[v0,v1,v2]) :
  SkIn E (σ.set k o) ((((w.setCell ⟨gb,k*3,none⟩ v0).setCell ⟨gb,k*3+1,none⟩ v1).setCell ⟨gb,k*3+2,none⟩ v2).setCell ⟨gz,k,none⟩ (.bool o.isSome)) ∧
  SkIn E (σ.set k o) ((((w.setCell ⟨gz,k,none⟩ (.bool o.isSome)).setCell ⟨gb,k*3,none⟩ v0).setCell ⟨gb,k*3+1,none⟩ v1).setCell ⟨gb,k*3+2,none⟩ v2):=by
 have hbo:some gb=E.vb.ownBlock:=by rw [hvb];rfl
 have hzo:some gz=E.vz.ownBlock:=by rw [hvz];rfl
 have hbz:gb≠gz:=by
  rcases ne with e | e
  ·rw [← hbo] at e;cases e
  ·intro e2;apply e;rw [← hbo,← hzo,e2]
 have hb:=h.b;have hz:=h.z;rw [hvb] at hb;rw [hvz] at hz;have hbl:(bindsV (bindsOf E.hs σ)).length=E.hs.length*3:=by rw [gQ,zDt h.n]
 have hzl:(boundV σ).length=E.hs.length:=by unfold boundV;rw [List.length_map];exact h.n
 have e1:(((bindsV (bindsOf E.hs σ)).set (k*3) v0).set (k*3+1) v1).set (k*3+2) v2=bindsV (bindsOf E.hs (σ.set k o)):=by
  unfold bindsV;rw [zKh (g:=bindV) (fun _=>rfl) _ k (bindOf E.hs[k] o) v0 v1 v2 (by rw [zDt h.n];exact hk) hv,zPc _ _ _ _ hk h.n]
 have e2:(boundV σ).set k (.bool o.isSome)=boundV (σ.set k o):=(zSn σ k o).symm;have s1:=vC (vC (vC hb (k*3) (by omega) v0) (k*3+1) (by rw [List.length_set];omega) v1) (k*3+2) (by rw [List.length_set,List.length_set];omega) v2;rw [e1] at s1;have z1:(((w.setCell ⟨gb,k*3,none⟩ v0).setCell ⟨gb,k*3+1,none⟩ v1).setCell ⟨gb,k*3+2,none⟩ v2).ownsRow E.B 4 1 (.slice (some ⟨gz,0,none⟩) E.hs.length cz) E.hs.length (boundV σ) :=
  ownsRow_setCell_other (ownsRow_setCell_other (ownsRow_setCell_other hz (by simp [Value.ownBlock];omega) _) (by simp [Value.ownBlock];omega) _) (by simp [Value.ownBlock];omega) _
 have z2:=vC z1 k (by omega) (.bool o.isSome);rw [e2] at z2;have s2:=ownsRow_setCell_other s1 (a:=⟨gz,k,none⟩) (by simp [Value.ownBlock];omega) (.bool o.isSome);have t1:=vC hz k (by omega) (.bool o.isSome);rw [e2] at t1;have t2:(((((w.setCell ⟨gz,k,none⟩ (.bool o.isSome)).setCell ⟨gb,k*3,none⟩ v0).setCell ⟨gb,k*3+1,none⟩ v1).setCell ⟨gb,k*3+2,none⟩ v2)).ownsRow E.B 4 1 (.slice (some ⟨gz,0,none⟩) E.hs.length cz) E.hs.length (boundV (σ.set k o)) :=
  ownsRow_setCell_other (ownsRow_setCell_other (ownsRow_setCell_other t1 (by simp [Value.ownBlock];omega) _) (by simp [Value.ownBlock];omega) _) (by simp [Value.ownBlock];omega) _
 have u1:=ownsRow_setCell_other hb (a:=⟨gz,k,none⟩) (by simp [Value.ownBlock];omega) (.bool o.isSome);have u2:=vC (vC (vC u1 (k*3) (by omega) v0) (k*3+1) (by rw [List.length_set];omega) v1) (k*3+2) (by rw [List.length_set,List.length_set];omega) v2;rw [e1] at u2;have K0:=KeptX.refl E w;refine ⟨h.turn hr ((((K0.set (Or.inl hbo) _).set (Or.inl hbo) _).set (Or.inl hbo) _).set (Or.inr hzo) _) (by rw [hvb];exact s2) (by rw [hvz];exact z2),
  h.turn hr ((((K0.set (Or.inr hzo) _).set (Or.inl hbo) _).set (Or.inl hbo) _).set (Or.inl hbo) _) (by rw [hvb];exact u2) (by rw [hvz];exact t2)⟩
end Go.Proofs.YtbjkdmbcpkopjaaGreatDoor
namespace Go.Proofs.YtbjkdmbcpkopjaaGreatDoor
set_option linter.all false

def alikeZ (r:RuleM) (p:Prt):Bool:=match r.fnd[0]? with
 | some q=>q.1 == 26 || (q.1 == 50 || (q.1 == p.1&&decide (q.2.2=p.2.2)))
 | none=>true
theorem zXf {r:RuleM} {l:List Prt} {i:Nat} (hi:i<l.length) (h:alikeZ r l[i]=false):atZ r l i=none:=by
 unfold alikeZ at h;cases hf:r.fnd[0]? with
 | none=>rw [hf] at h;cases h
 | some q =>
  rw [hf] at h;simp only [Bool.or_eq_false_iff,bE] at h;obtain ⟨h1,h2,h3⟩:=h;have hn:zL r.fnd r.holes 0=none:=by
   unfold zL;rw [List.findIdx?_eq_none_iff];intro g _;unfold zW;rw [hf];cases xO g.2 with
   | true =>
    rw [iP rfl];cases r.fnd[0+1]? with
    | none=>rfl
    | some b=>simp [h2]
   | false=>simp [h1]
  have ha:alikeP r.fnd l 0 i=false:=by
   unfold alikeP;rw [hf,gE hi];exact h3
  unfold atZ;split
  ·rw [show ((i:Int)).toNat=i by omega];unfold fuelZ;rw [aPart];have ho:oneOf r.fnd r.holes 0=none:=by unfold oneOf;rw [hn]
   rw [ho,ha];rfl
  ·rfl
theorem zTw {rules:List RuleM} {l:List Prt} (hl:zV l=true) {i n:Nat} (hi:i<l.length) {r:RuleM} (hr:rules[n]?=some r) :
  oneM rules l i n=match atZ r (piece l i (zB l i)) 0 with
   | some τ=>[(n,i,(bindsOf r.holes τ).map fun b=>(b.1,b.2.1+(i:Int),b.2.2+(i:Int)))]
   | none=>[]:=by
 unfold oneM;rw [hr];simp only [];rw [zZr hl hi];cases h:atZ r (piece l i (zB l i)) 0 with
 | none=>rfl
 | some τ=>simp only [Option.map_some];rw [zEc _ _ _ (yAu h)]
theorem yCn {rules:List RuleM} {l:List Prt} {i n:Nat} (hi:i<l.length) {r:RuleM} (hr:rules[n]?=some r) (h:alikeZ r l[i]=false):oneM rules l i n=[]:=by
 unfold oneM;rw [hr];simp only [];rw [zXf hi h]
def accM (rules:List RuleM) (l:List Prt) (i n:Nat):List Mch:=(List.range i).flatMap (atM rules l)++(List.range n).flatMap (oneM rules l i)
theorem gT (rules:List RuleM) (l:List Prt) (i n:Nat):accM rules l i (n+1)=accM rules l i n++oneM rules l i n:=by
 unfold accM;rw [List.range_succ,List.flatMap_append,List.append_assoc];simp
theorem zAv (rules:List RuleM) (l:List Prt) (i:Nat):accM rules l (i+1) 0=accM rules l i rules.length:=by
 unfold accM;rw [List.range_succ,List.flatMap_append];simp [atM]
theorem zFy (rules:List RuleM) (l:List Prt):accM rules l l.length 0=allM rules l:=by
 unfold accM allM;simp
open Go.RowKit
end Go.Proofs.YtbjkdmbcpkopjaaGreatDoor
namespace Go.Proofs.YtbjkdmbcpkopjaaGreatDoor
set_option linter.all false

section
variable (t l:List Prt) (hs:List Hl) (b:Nat→Nat×Nat)
def srcL (x y:Nat):List PN:=(List.range' x (y-x)).map fun i=>(yCg l i,(i:Int))
theorem zNa {x y:Nat} (h1:x≤y) (h2:y≤l.length):(srcL l x y).map (·.1)=piece l x y:=by
 unfold srcL piece;rw [List.map_map];apply List.ext_getElem
 ·simp;omega
 ·intro k g1 g2;simp at g1;simp [yCg,gD,show x+k<l.length by omega]
theorem zXe (x y:Nat):(srcL l x y).length=y-x:=by unfold srcL;simp
mutual
def mPart:Nat→Nat→List PN
 | 0,_=>[]
 | n+1,p=>match zL t hs p with
  | some h=>srcL l (b h).1 (b h).2
  | none=>match t[p]? with
   | some a=>((a.1,(cntP ((mKids n (p+1) (zB t p)).map (·.1)):Int),a.2.2),-1)::mKids n (p+1) (zB t p)
   | none=>[]
def mKids:Nat→Nat→Nat→List PN
 | 0,_,_=>[]
 | n+1,p,pend=>if p=pend then [] else mPart n p++mKids n (zB t p) pend
end
theorem zQh (hb:∀ h,(b h).1≤(b h).2∧(b h).2≤l.length):∀ n,(∀ p,(mPart t l hs b n p).map (·.1)=iPart t hs (fun h=>piece l (b h).1 (b h).2) n p)∧(∀ p pend,(mKids t l hs b n p pend).map (·.1)=iKids t hs (fun h=>piece l (b h).1 (b h).2) n p pend)
 | 0=>⟨(fun p=>by rw [mPart,iPart];rfl),(fun p pend=>by rw [mKids,iKids];rfl)⟩
 | n+1=>by
  obtain ⟨h1,h2⟩:=zQh hb n;constructor
  ·intro p;rw [mPart,iPart];cases zL t hs p with
   | some h=>exact zNa l (hb h).1 (hb h).2
   | none =>
    simp only [];cases t[p]? with
    | none=>rfl
    | some a=>simp only [List.map_cons,h2]
  ·intro p pend;rw [mKids,iKids];split
   ·rfl
   ·rw [List.map_append,h1,h2]
end
section
variable (l:List Prt)
end
end Go.Proofs.YtbjkdmbcpkopjaaGreatDoor
