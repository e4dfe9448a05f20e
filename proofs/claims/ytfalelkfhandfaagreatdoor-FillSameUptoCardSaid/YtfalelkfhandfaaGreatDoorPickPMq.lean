/- Layer 19: what the picker holds in memory. -/
import Derived.Test.YtfalelkfhandfaaGreatDoorHeapPMq
import Derived.Test.YtfalelkfhandfaaGreatDoorSeekFMq
import Derived.Test.YtfalelkfhandfaaGreatDoorMakeMq
import Derived.Test.YtfalelkfhandfaaGreatDoorAllFMq
import Derived.Test.YtfalelkfhandfaaGreatDoorTwoRMq
import Derived.Test.YtfalelkfhandfaaGreatDoorTerm3Mq
import Derived.Test.YtfalelkfhandfaaGreatDoorPackMq
import Derived.Test.YtfalelkfhandfaaGreatDoorQuoted6Mq
import Derived.Test.YtfalelkfhandfaaGreatDoorAtMq
import Derived.Test.YtfalelkfhandfaaGreatDoorRuleBMq
import Derived.Test.YtfalelkfhandfaaGreatDoorRuleAMq
namespace Go.Proofs.YtfalelkfhandfaaGreatDoor
set_option linter.all false
open Go Go.RowKit

def pkM (m:Mch):Pk:=((m.1:Int),(m.2.1:Int),m.2.2)
structure TkIn (w:World) (gp:Nat) (l:List Prt) (ms:List Mch) (ve ov:Value) (P:List PkX) (F G:Nat) (W:World):Prop where
 below:Below w.heap.size w W
 lo:w.heap.size≤gp
 cell:W.heap[gp]?=some (.cells #[ve,ov,.int .i64 (F:Int)] 103 (0,0))
 ends:W.ownsRow w.heap.size 3 1 ve l.length ((endsL l).map (Value.int .i64))
 out:W.ownsRow w.heap.size 47 3 ov P.length (P.flatMap pkV)
 binds:∀ x∈P,W.ownsRow w.heap.size 52 3 x.2 x.1.2.2.length (bindsV x.1.2.2)
 mem:∀ x∈P,∃ m∈ms,x.1=pkM m
 free:∀ Q,FreeP l G Q→FreeP l 0 (P.map (·.1)++Q)
structure KpT (W W':World):Prop where
 size:W.heap.size≤W'.heap.size
 cells:∀ (k:Nat) (cs:Array Value) (T:TypeId) (fr:Nat×Nat),W.heap[k]?=some (.cells cs T fr)→T≠103→T≠47→W'.heap[k]?=W.heap[k]?
theorem KpT.of_below {W W':World} (h:Below W.heap.size W W'):KpT W W':=⟨h.size,fun k cs T fr hc _ _=>h.block k (zD hc)⟩
theorem KpT.trans {a b c:World} (h:KpT a b) (k:KpT b c):KpT a c :=
 ⟨Nat.le_trans h.size k.size,fun i cs T fr hc h1 h2=>by
  have e:=h.cells i cs T fr hc h1 h2
  exact (k.cells i cs T fr (e.trans hc) h1 h2).trans e⟩
theorem zCn {W w':World} {B:Nat} {e:TypeId} {size n:Nat} {v:Value} {xs:List Value} (ho:W.ownsRow B e size v n xs) (hg:W.grownBy w' v.ownBlock) {k:Nat} {cs:Array Value} {T:TypeId} {fr:Nat×Nat} (hk:W.heap[k]?=some (.cells cs T fr)) (hT:T≠e):w'.heap[k]?=W.heap[k]?:=by
 refine hg.block k (zD hk) (fun e1=>?_)
 rcases ho.2 with ⟨hv,_⟩ | ⟨g,cap,cur,hv,_,hh,_⟩
 ·rw [hv] at e1;simp [Value.ownBlock] at e1
 ·rw [hv] at e1
  simp [Value.ownBlock] at e1
  subst e1
  rw [hk] at hh
  cases hh
  exact hT rfl
section
variable {w W W':World} {gp:Nat} {l:List Prt} {ms:List Mch} {ve ov:Value} {P:List PkX} {F G:Nat}
theorem TkIn.ext (h:TkIn w gp l ms ve ov P F G W) (hb:Below W.heap.size W W'):TkIn w gp l ms ve ov P F G W' :=
 ⟨zB h.below hb,h.lo,keeps hb h.cell,zL h.ends hb,zL h.out hb,fun x hx=>zL (h.binds x hx) hb,h.mem,h.free⟩
theorem TkIn.kpQ (h:TkIn w gp l ms ve ov P F G W) (hb:Below w.heap.size w W') (k:KpQ W W'):TkIn w gp l ms ve ov P F G W' :=
 ⟨hb,h.lo,(k.cells _ _ _ _ h.cell (by decide) (by decide)).trans h.cell,k.row h.ends (by decide) (by decide),k.row h.out (by decide) (by decide),fun x hx=>k.row (h.binds x hx) (by decide) (by decide),h.mem,h.free⟩
theorem TkIn.cells (h:TkIn w gp l ms ve ov P F G W):W.cell? ⟨gp,0,none⟩=some ve∧W.cell? ⟨gp,1,none⟩=some ov∧W.cell? ⟨gp,2,none⟩=some (.int .i64 (F:Int))∧∀ j,W.frozen? ⟨gp,j,none⟩=false:=by
 have hc:=h.cell
 simp [World.cell?,World.frozen?,hc]
theorem TkIn.put (h:TkIn w gp l ms ve ov P F G W):TkIn w gp l ms ve ov P G G (W.setCell ⟨gp,2,none⟩ (.int .i64 (G:Int)))∧KpT W (W.setCell ⟨gp,2,none⟩ (.int .i64 (G:Int))):=by
 have hne:∀ (k:Nat) (cs:Array Value) (T:TypeId) (fr:Nat×Nat),W.heap[k]?=some (.cells cs T fr)→T≠103→k≠gp:=fun k cs T fr hk hT e=>by subst e;rw [h.cell] at hk;cases hk;exact hT rfl
 have hrow:∀ {e:TypeId} {size n:Nat} {v:Value} {xs:List Value},W.ownsRow w.heap.size e size v n xs→e≠103→(W.setCell ⟨gp,2,none⟩ (.int .i64 (G:Int))).ownsRow w.heap.size e size v n xs:=fun hr he=>yJ hr (fun k cs fr hc=>heap_setCell_other _ _ _ _ (hne k cs _ fr hc he))
 refine ⟨⟨h.below.setCell (p:=⟨gp,2,none⟩) h.lo _,h.lo,heap_setCell_same W gp 2 _ _ _ h.cell,hrow h.ends (by decide),hrow h.out (by decide),fun x hx=>hrow (h.binds x hx) (by decide),h.mem,h.free⟩,⟨by simp,fun k cs T fr hc h1 h2=>heap_setCell_other _ _ _ _ (hne k cs T fr hc h1)⟩⟩
theorem TkIn.push (h:TkIn w gp l ms ve ov P F F W) (hn:P.length≤1000000) (x:PkX) {s:Option Addr} {m t:Nat} (hx:x.2=.slice s m t) (hbx:W.ownsRow w.heap.size 52 3 x.2 x.1.2.2.length (bindsV x.1.2.2)) (hm:∃ m∈ms,x.1=pkM m) (hF:(F:Int)≤x.1.2.1) :
  ∃ va vn vc w1,(Builtin.append_ #[24,24] 24 #[ov,.slice (some ⟨W.heap.size,0,none⟩) 1 1]).run Tryz.prog (W.alloc (.cells #[.int .i64 x.1.1,.int .i64 x.1.2.1,.slice s m t] 47))=.ok (.slice va vn vc) w1 ∧
   TkIn w gp l ms ve (.slice va vn vc) (P++[x]) F (zA l x.1.2.1.toNat) (w1.setCell ⟨gp,1,none⟩ (.slice va vn vc))∧KpT W (w1.setCell ⟨gp,1,none⟩ (.slice va vn vc))∧w1.frozen? ⟨gp,1,none⟩=false∧w1.cell? ⟨gp,1,none⟩=some ov:=by
 have hs:=h.below.size
 obtain ⟨v1,w1,r1,o1,g1,p1⟩:=yH (P:=Tryz.prog) W #[.int .i64 x.1.1,.int .i64 x.1.2.1,.slice s m t] 47 24 24 47 Tryz.underlying24 w.heap.size zCf rfl (by decide) ov P.length _ h.out 1 1 rfl (Nat.le_refl _)
  (by intro u hu;simp at hu;rcases hu with rfl | rfl | rfl <;> rfl) (by omega) (by omega) hs
 obtain ⟨va,vn,vc,rfl⟩:=zC o1
 have ba:Below W.heap.size W (W.alloc (.cells #[.int .i64 x.1.1,.int .i64 x.1.2.1,.slice s m t] 47)):=(Below.refl _ _).alloc (Nat.le_refl _) _
 have ra:=zL h.out ba
 have ca:=keeps ba h.cell
 have c1:w1.heap[gp]?=some (.cells #[ve,ov,.int .i64 (F:Int)] 103 (0,0)):=(zCn ra g1 ca (by decide)).trans ca
 have hbl:=xT (zB h.below ba) (by have:=ba.size;omega) ra g1
 have keepT:∀ (k:Nat) (cs:Array Value) (T:TypeId) (fr:Nat×Nat),W.heap[k]?=some (.cells cs T fr)→T≠47→w1.heap[k]?=W.heap[k]?:=fun k cs T fr hk hT=>by rw [zCn ra g1 (keeps ba hk) hT,keeps ba hk,hk]
 have hne:∀ (k:Nat) (cs:Array Value) (T:TypeId) (fr:Nat×Nat),W.heap[k]?=some (.cells cs T fr)→T≠103→k≠gp:=fun k cs T fr hk hT e=>by subst e;rw [h.cell] at hk;cases hk;exact hT rfl
 have hrow:∀ {e:TypeId} {size n:Nat} {v:Value} {xs:List Value},W.ownsRow w.heap.size e size v n xs→e≠103→e≠47→(w1.setCell ⟨gp,1,none⟩ (.slice va vn vc)).ownsRow w.heap.size e size v n xs:=fun hr he he2=>yJ hr (fun k cs fr hc=>by
  rw [heap_setCell_other _ _ _ _ (hne k cs _ fr hc he),keepT k cs _ fr hc he2])
 refine ⟨va,vn,vc,w1,r1,⟨hbl.setCell (p:=⟨gp,1,none⟩) h.lo _,h.lo,heap_setCell_same w1 gp 1 _ _ _ c1,hrow h.ends (by decide) (by decide),?_,?_,?_,?_⟩,⟨?_,?_⟩,by simp [World.frozen?,c1],by simp [World.cell?,c1]⟩
 ·rw [List.length_append,List.flatMap_append,show [x].flatMap pkV=(#[.int .i64 x.1.1,.int .i64 x.1.2.1,.slice s m t]:Array Value).toList by simp [pkV,hx]]
  exact yJ o1 (fun k cs fr hk=>heap_setCell_other _ _ _ _ (fun e=>by subst e;rw [c1] at hk;cases hk))
 ·intro y hy
  rcases List.mem_append.1 hy with hy | hy
  ·exact hrow (h.binds y hy) (by decide) (by decide)
  ·obtain rfl:=List.mem_singleton.1 hy
   exact hrow hbx (by decide) (by decide)
 ·intro y hy
  rcases List.mem_append.1 hy with hy | hy
  ·exact h.mem y hy
  ·obtain rfl:=List.mem_singleton.1 hy
   exact hm
 ·intro Q hQ
  rw [List.map_append,List.append_assoc]
  exact h.free _ ⟨hF,hQ⟩
 ·have g3:=g1.size;have g2:=ba.size;simp only [zAb];omega
 ·intro k cs T fr hk h1 h2
  rw [heap_setCell_other _ _ _ _ (hne k cs T fr hk h1),keepT k cs T fr hk h2]
theorem KpT.queue {gq:Nat} {ys:List It} (k:KpT W W') (h:QIn w gq ys W) (hb:Below w.heap.size w W'):QIn w gq ys W' :=
 h.other hb (fun i cs T fr hc hT=>k.cells i cs T fr hc (by rintro rfl;rcases hT with hT | hT <;> exact absurd hT (by decide)) (by rintro rfl;rcases hT with hT | hT <;> exact absurd hT (by decide)))
end
end Go.Proofs.YtfalelkfhandfaaGreatDoor
namespace Go.Proofs.YtfalelkfhandfaaGreatDoor
set_option maxRecDepth 100000
set_option maxHeartbeats 32000000
set_option linter.all false
attribute [local irreducible] Calls
attribute [local irreducible] wpStill
open Go.RowKit

theorem zQa (bs:List Bnd):∀ u∈bindsV bs,u.oneCell'=true:=by
 intro u hu
 unfold bindsV at hu
 obtain ⟨b,_,hb⟩:=List.mem_flatMap.1 hu
 simp only [bindV,List.mem_cons,List.not_mem_nil,or_false] at hb
 rcases hb with rfl | rfl | rfl <;> rfl
@[irreducible] def takePost (w:World) (gp:Nat) (l:List Prt) (ms:List Mch) (ve:Value) (P:List PkX) (W:World) (e:Ending) (w':World):Prop :=
 e=.returned (.tuple #[])∧∃ ov' P' F',TkIn w gp l ms ve ov' P' F' F' w'∧KpT W w'∧P'.length≤P.length+1
theorem zVn {w W:World} {gp:Nat} {l:List Prt} {ms:List Mch} {ve ov:Value} {P:List PkX} {F:Nat} (h:TkIn w gp l ms ve ov P F F W) (hn:P.length≤1000000) (hl:l.length≤1000000000) (y:It) {s:Option Addr} {m t:Nat} (hy:y.1.2=.slice s m t) (hbr:BindRow w y.1.2 y.1.1.2.2) (hbl:y.1.1.2.2.length≤1048576) (hm:y.1.1∈ms) (hi:y.1.1.2.1<l.length) :
  Calls Tryz.prog 58 #[.pointer (some ⟨gp,0,none⟩),itA y s m t] W (takePost w gp l ms ve P W):=by
 have HQ:Hid (∀ ov' P' F' w',TkIn w gp l ms ve ov' P' F' F' w'→KpT W w'→P'.length≤P.length+1→takePost w gp l ms ve P W (.returned (.tuple #[])) w'):=Hd fun ov' P' F' w' h1 h2 h3=>by
  unfold takePost;exact ⟨rfl,ov',P',F',h1,h2,h3⟩
 generalize takePost w gp l ms ve P W=Q at *
 obtain ⟨⟨⟨yr,yp,yb⟩,yv⟩,yk⟩:=y
 simp only [] at hy hbr hbl hm hi
 subst hy
 unfold itA
 simp only []
 obtain ⟨oa,on,oc,rfl⟩:=zC h.out
 obtain ⟨ea,en,ec,rfl⟩:=zC h.ends
 obtain ⟨c0,c1,c2,cz⟩:=h.cells
 have hgp:=zD h.cell
 have hX:Below W.heap.size W (W.alloc (.cells #[.int .i64 (yr:Int),.int .i64 (yp:Int),.slice s m t,.int .i64 (yk:Int)] 100)).drew:=((Below.refl _ _).alloc (Nat.le_refl _) _).drew
 have HH:=Hd h
 have HBR:=Hd hbr
 have HM:=Hd hm
 have HXB:=Hd hX
 have hblk:=heap_alloc_new W (.cells #[.int .i64 (yr:Int),.int .i64 (yp:Int),.slice s m t,.int .i64 (yk:Int)] 100)
 have hXs:W.heap.size<(W.alloc (.cells #[.int .i64 (yr:Int),.int .i64 (yp:Int),.slice s m t,.int .i64 (yk:Int)] 100)).drew.heap.size:=by show W.heap.size<(W.alloc _).heap.size;rw [World.size_alloc];omega
 by_cases hlt:(yp:Int)<F
 ·have HX:=Hd (HQ.out _ _ _ _ (h.ext hX) (KpT.of_below hX) (by omega))
  clear hbr hm h hX HH HBR HXB hblk hXs
  go_enter Tryz.func58,Tryz.ntmps58
  go_wp2_with fail
  go_region
  all_goals go_wp2_with fail
  all_goals (go_end0;exact HX.out)
 have hlt':(F:Int)≤yp:=by omega
 obtain ⟨vb,w2,r2,o2,g2,hown2⟩:=vH (P:=Tryz.prog) (W.alloc (.cells #[.int .i64 (yr:Int),.int .i64 (yp:Int),.slice s m t,.int .i64 (yk:Int)] 100)).drew 45 45 52 Tryz.underlying45 (W.alloc (.cells #[.int .i64 (yr:Int),.int .i64 (yp:Int),.slice s m t,.int .i64 (yk:Int)] 100)).drew.heap.size zAf rfl (by decide) (.slice none 0 0) 0 [] (World.ownsRow_nil _ _ _ _) (.slice s m t) yb.length (bindsV yb) (hbr.below (zB h.below hX)) (zQa yb) (by omega) (by omega) (Nat.le_refl _)
 rw [Nat.zero_add,List.nil_append] at o2
 obtain ⟨ba,bn,bc,rfl⟩:=zC o2
 have b2:=xT (e:=52) (size:=3) (Below.refl _ _) (Nat.le_refl _) (World.ownsRow_nil _ _ _ _) g2
 have hbox:w2.heap[W.heap.size]?=some (.cells #[.int .i64 (yr:Int),.int .i64 (yp:Int),.slice s m t,.int .i64 (yk:Int)] 100 (0,0)):=keeps b2 hblk
 have hB3:Below W.heap.size W (w2.setCell ⟨W.heap.size,2,none⟩ (.slice ba bn bc)):=(zB hX b2).setCell (p:=⟨W.heap.size,2,none⟩) (Nat.le_refl _) _
 have HT3:Hid (TkIn w gp l ms (.slice ea en ec) (.slice oa on oc) P F F (w2.setCell ⟨W.heap.size,2,none⟩ (.slice ba bn bc)).drew):=Hd (h.ext hB3.drew)
 have HK3:Hid (KpT W (w2.setCell ⟨W.heap.size,2,none⟩ (.slice ba bn bc)).drew):=Hd (KpT.of_below hB3.drew)
 have HO3:Hid ((w2.setCell ⟨W.heap.size,2,none⟩ (.slice ba bn bc)).drew.ownsRow w.heap.size 52 3 (.slice ba bn bc) yb.length (bindsV yb)):=Hd (World.ownsRow.drew (yJ (fV o2 (by have:=h.below.size;have:=hX.size;omega)) (fun k cs fr hk=>heap_setCell_other _ _ _ _ (fun e=>by subst e;rw [hbox] at hk;cases hk))))
 have HG3:Hid ((w2.setCell ⟨W.heap.size,2,none⟩ (.slice ba bn bc)).drew.heap[W.heap.size]?=some (.cells #[.int .i64 (yr:Int),.int .i64 (yp:Int),.slice ba bn bc,.int .i64 (yk:Int)] 100 (0,0))):=Hd (heap_setCell_same w2 W.heap.size 2 _ _ _ hbox)
 have hz2:w2.frozen? ⟨W.heap.size,2,none⟩=false:=by simp [World.frozen?,hbox]
 have hy2:w2.cell? ⟨W.heap.size,2,none⟩=some (.slice s m t):=by simp [World.cell?,hbox]
 clear hown2
 have R2:=Hd r2
 clear hbr hm h hX HH HBR HXB hblk o2 g2 b2 hbox hB3 r2
 go_enter Tryz.func58,Tryz.ntmps58
 go_wp2_with fail
 go_region
 go_wp2_with (at_builtin;refine yA rfl _ _ _ _ R2.out rfl rfl rfl rfl ?_)
 clear c0 c1 c2 cz hz2 hy2 R2
 obtain ⟨c0,c1,c2,cz⟩:=HT3.out.cells
 have hS0:(fun X:World=>X.cell? ⟨gp,1,none⟩=some (.slice oa on oc)∧X.cell? ⟨W.heap.size,0,none⟩=some (.int .i64 (yr:Int))∧X.cell? ⟨W.heap.size,1,none⟩=some (.int .i64 (yp:Int))∧X.cell? ⟨W.heap.size,2,none⟩=some (.slice ba bn bc)) (w2.setCell ⟨W.heap.size,2,none⟩ (.slice ba bn bc)).drew:=by
  have hg:=HG3.out
  refine ⟨c1,?_⟩
  simp only [World.cell?,hg]
  exact ⟨rfl,rfl,rfl⟩
 have HS0:=Hd hS0
 have HLT:Hid (gp<(w2.setCell ⟨W.heap.size,2,none⟩ (.slice ba bn bc)).drew.heap.size∧W.heap.size<(w2.setCell ⟨W.heap.size,2,none⟩ (.slice ba bn bc)).drew.heap.size):=Hd ⟨zD HT3.out.cell,zD HG3.out⟩
 clear hS0 c0 c1 c2 cz hXs hgp
 refine kK (S:=fun X=>X.cell? ⟨gp,1,none⟩=some (.slice oa on oc)∧X.cell? ⟨W.heap.size,0,none⟩=some (.int .i64 (yr:Int))∧X.cell? ⟨W.heap.size,1,none⟩=some (.int .i64 (yp:Int))∧X.cell? ⟨W.heap.size,2,none⟩=some (.slice ba bn bc)) [8] (by kernel_rfl) ?_
 generalize (w2.setCell ⟨W.heap.size,2,none⟩ (.slice ba bn bc)).drew=W3 at *
 obtain ⟨va,vn,vc,w6,hap,ht6,hk6,hz6,hc6⟩:=HT3.out.push hn (((yr:Int),(yp:Int),yb),.slice ba bn bc) rfl HO3.out ⟨_,HM.out,rfl⟩ hlt'
 have HAP:=Hd hap
 have HT6:Hid (TkIn w gp l ms (.slice ea en ec) (.slice va vn vc) (P++[(((yr:Int),(yp:Int),yb),.slice ba bn bc)]) F (zA l yp) (w6.setCell ⟨gp,1,none⟩ (.slice va vn vc))):=Hd ht6
 have HG6:=Hd ((hk6.cells _ _ _ _ HG3.out (by decide) (by decide)).trans HG3.out)
 have HK6:=Hd (HK3.out.trans hk6)
 have hS0:=HS0.out
 have hSA:(fun X:World=>X.cell? ⟨gp,1,none⟩=some (.slice oa on oc)∧X.cell? ⟨W.heap.size,0,none⟩=some (.int .i64 (yr:Int))∧X.cell? ⟨W.heap.size,1,none⟩=some (.int .i64 (yp:Int))∧X.cell? ⟨W.heap.size,2,none⟩=some (.slice ba bn bc)) (W3.alloc (.cells #[.int .i64 (yr:Int),.int .i64 (yp:Int),.slice ba bn bc] 47)):=by
  have hlt:=HLT.out
  simp only [World.cell?,Below.heap_alloc _ _ _ hlt.1,Below.heap_alloc _ _ _ hlt.2]
  exact hS0
 clear hap ht6 hk6
 refine tkF 0 18 ?vq1 rfl ?hyq1 (fun _=>hS0) ?restq1
 case hyq1=>intro w q;clear q;go_simp;(try with_reducible rfl)
 (try simp only [aP])
 refine tkF 1 19 ?vq2 rfl ?hyq2 (fun _=>hS0) ?restq2
 case hyq2=>intro w q;clear q;go_simp;(try with_reducible rfl)
 (try simp only [aP])
 refine tkF 2 20 ?vq3 rfl ?hyq3 (fun _=>hS0) ?restq3
 case hyq3=>intro w q;clear q;go_simp;(try with_reducible rfl)
 (try simp only [aP])
 refine tkF 3 21 ?vq4 rfl ?hyq4 (fun _=>hS0) ?restq4
 case hyq4=>intro w q;clear q;go_simp;(try with_reducible rfl)
 (try simp only [aP])
 refine tkU [8,9,10,11] 4 22 ?vq5 rfl ?hyq5 hS0 ?restq5
 case hyq5=>intro w q;(try dsimp only at q);go_simp;(try with_reducible rfl)
 (try simp only [aP])
 refine tkF 5 23 ?vq6 rfl ?hyq6 (fun _=>hS0) ?restq6
 case hyq6=>intro w q;clear q;go_simp;(try with_reducible rfl)
 (try simp only [aP])
 refine tkU [7,8,9,10,11] 6 24 ?vq7 rfl ?hyq7 hS0 ?restq7
 case hyq7=>intro w q;(try dsimp only at q);go_simp;(try with_reducible rfl)
 (try simp only [aP])
 refine zP (rs:=[7]) (by kernel_rfl) (by simp) ?_
 refine zE.cons (o:=⟨some 25,_,_,_,_,_⟩) rfl (fun K hK=>?_) zE.nil
 go_simp
 refine hK.out _ _ (fun _=>hSA) ?_
 clear hK K
 (try simp only [aP])
 refine zP (rs:=[8]) (by kernel_rfl) (by simp) ?_
 refine zE.cons (o:=⟨some 26,_,_,_,_,_⟩) rfl (fun K hK=>?_) zE.nil
 refine zY _ _ _ _ HAP.out rfl rfl rfl rfl ?_
 refine hK.out _ _ (fun h=>Bool.noConfusion (h.symm.trans (by kernel_rfl:_=false))) ?_
 clear hK K
 (try simp only [aP])
 refine zP (rs:=[9]) (by kernel_rfl) (by simp) ?_
 refine zE.cons (o:=⟨some 27,_,_,_,_,_⟩) rfl (fun K hK=>?_) zE.nil
 go_simp
 refine hK.out _ _ (fun h=>Bool.noConfusion (h.symm.trans (by kernel_rfl:_=false))) ?_
 clear hK K
 (try simp only [aP])
 refine zP (rs:=[10]) (by kernel_rfl) (by simp) ?_
 refine zE.cons (o:=⟨some 28,_,_,_,_,_⟩) rfl (fun K hK=>?_) zE.nil
 go_simp
 refine hK.out _ _ (fun h=>Bool.noConfusion (h.symm.trans (by kernel_rfl:_=false))) ?_
 clear hK K
 (try simp only [aP])
 refine zP (rs:=[11]) (by kernel_rfl) (by simp) ?_
 refine zE.cons (o:=⟨none,_,_,_,_,_⟩) rfl (fun K hK=>?_) zE.nil
 go_simp
 refine hK.out _ _ (fun h=>Bool.noConfusion (h.symm.trans (by kernel_rfl:_=false))) ?_
 clear hK K
 (try simp only [aP])
 refine kQ (by kernel_rfl) ?_ _
 clear hz6 hc6 hS0 hSA HS0 HAP HT3 HK3 HO3 HG3 HLT
 obtain ⟨hput,hkput⟩:=HT6.out.put
 have HX:=Hd (HQ.out _ _ _ _ (hput.ext (Below.refl _ _).drew) ((HK6.out.trans hkput).trans (KpT.of_below (Below.refl _ _).drew)) (by rw [List.length_append];exact Nat.le_refl _))
 obtain ⟨c0,c1,c2,cz⟩:=HT6.out.cells
 have hrow:=Row.of_owns HT6.out.ends
 obtain ⟨eb,eo,ec',hev,hec,hel,hec2⟩:=Row.cells hrow (Below.refl _ _) (show 0<l.length by omega)
 simp only [Value.slice.injEq] at hev
 obtain ⟨rfl,rfl,rfl⟩:=hev
 have ce:(w6.setCell ⟨gp,1,none⟩ (.slice va vn vc)).cell? ⟨eb,eo+yp,none⟩=some (.int .i64 (zA l yp:Int)):=by
  rw [hec2 yp (by omega),List.getElem?_map,xJ hi];rfl
 have cb:(w6.setCell ⟨gp,1,none⟩ (.slice va vn vc)).cell? ⟨W.heap.size,1,none⟩=some (.int .i64 (yp:Int)):=by
  have hg:=HG6.out
  simp [World.cell?,hg]
 have hyp0:(0:Int)≤yp:=by omega
 have hyp1:(yp:Int)<l.length:=by omega
 have hyp2:(yp:Int)<ec:=by omega
 clear hput hkput hrow hec2 HG6 HK6 HT6 HM
 generalize w6.setCell ⟨gp,1,none⟩ (.slice va vn vc)=W7 at *
 go_upto_region 4 with (fail)
 go_still_tail 10,(by kernel_rfl)
 go_wp2_with fail
 go_end0
 exact HX.out
end Go.Proofs.YtfalelkfhandfaaGreatDoor
namespace Go.Proofs.YtfalelkfhandfaaGreatDoor
set_option maxRecDepth 100000
set_option maxHeartbeats 32000000
set_option linter.all false
attribute [local irreducible] Calls
open Go.RowKit

structure MsOK (w:World) (l:List Prt) (xs:List MchX):Prop where
 at':∀ x∈xs,x.1.2.1<l.length
 row:∀ x∈xs,BindRow w x.2 x.1.2.2
 few:∀ x∈xs,x.1.2.2.length≤1048576
def drRel (w:World) (gq gp:Nat) (l:List Prt) (xs:List MchX) (ve:Value) (N:Nat) (wr:World):Prop :=
 ∃ (ys:List It) (ov:Value) (P:List PkX) (F:Nat),QIn w gq ys wr∧TkIn w gp l (xs.map (·.1)) ve ov P F F wr∧SlI ys∧(∀ y∈ys,y.1∈xs)∧ys.length+P.length≤N
def drMu (gq:Nat) (wr:World):Nat:=match wr.cell? ⟨gq,0,none⟩ with
 | some (.slice _ n _)=>n
 | _=>0
theorem zVm {gq n c:Nat} {a:Option Addr} {wr:World} (h:wr.cell? ⟨gq,0,none⟩=some (.slice a n c)):drMu gq wr=n:=by unfold drMu;rw [h]
theorem QIn.mu {w W:World} {gq:Nat} {ys:List It} (h:QIn w gq ys W):drMu gq W=ys.length:=by
 obtain ⟨a,c,_,hc,_⟩:=h.cell
 exact zVm hc
@[irreducible] def drainPost (w:World) (gp:Nat) (l:List Prt) (xs:List MchX) (ve:Value) (N:Nat) (e:Ending) (w':World):Prop :=
 e=.returned (.tuple #[])∧∃ ov P F,TkIn w gp l (xs.map (·.1)) ve ov P F F w'∧P.length≤N
theorem zTf {w W:World} {gq gp:Nat} {l:List Prt} {xs:List MchX} {ve ov:Value} {ys:List It} {P:List PkX} {F N:Nat} (hq:QIn w gq ys W) (ht:TkIn w gp l (xs.map (·.1)) ve ov P F F W) (hs:SlI ys) (hm:∀ y∈ys,y.1∈xs) (hx:MsOK w l xs) (hl:l.length≤1000000000) (hN:ys.length+P.length≤N) (hN2:N≤900000) :
  Calls Tryz.prog 57 #[.pointer (some ⟨gq,0,none⟩),.func (.func 58) #[.pointer (some ⟨gp,0,none⟩)] #[]] W (drainPost w gp l xs ve N):=by
 have HQ:Hid (∀ ov P F w',TkIn w gp l (xs.map (·.1)) ve ov P F F w'→P.length≤N→drainPost w gp l xs ve N (.returned (.tuple #[])) w'):=Hd fun ov P F w' h1 h2=>by
  unfold drainPost;exact ⟨rfl,ov,P,F,h1,h2⟩
 generalize drainPost w gp l xs ve N=Q at *
 have H0:Hid (drRel w gq gp l xs ve N W):=Hd ⟨ys,ov,P,F,hq,ht,hs,hm,hN⟩
 have HX:=Hd hx
 have hTA:=fun v (X:World)=>zOd v X
 clear hq ht hs hm hx hN
 go_enter Tryz.func57,Tryz.ntmps57
 go_wp2_with fail
 go_loopw [] (fun wr=>drRel w gq gp l xs ve N wr) (fun wr=>drMu gq wr)
 case atStart=>exact H0.out
 case round =>
  clear H0
  obtain ⟨ys,ov,P,F,hq,ht,hs,hm,hN⟩:=hrel
  have hmu:=hq.mu
  obtain ⟨qa,qc,-,c0,-,-,-⟩:=hq.cell
  have CL:=Hd (zSh qa ys.length qc wr)
  rcases Nat.eq_zero_or_pos ys.length with hz | hz
  ·have HE:=Hd (HQ.out ov P F wr ht (by omega))
   rw [hz] at CL c0
   clear hq ht hs hm hN hmu hz
   go_wp2_with (first
    | (go_at_call 75;refine CL.out.mono ?_;rintro e w1 ⟨rfl,rfl⟩;clear CL))
   go_end0
   exact HE.out
  obtain ⟨n,hn⟩:∃ n,ys.length=n+1:=⟨ys.length-1,by omega⟩
  have CP:=Hd (zSk hq hs hn (by omega))
  have HT:=Hd ht
  have HS:=Hd hs
  have HM:=Hd hm
  have HMU:Hid (drMu gq wr=n+1):=Hd (hmu.trans hn)
  have HN:Hid (n+1+P.length≤N):=Hd (by omega)
  have hpos:(0:Int)<(ys.length:Int):=by omega
  clear hq ht hs hm hN hmu hz
  generalize hyl:ys.length=k at *
  clear hyl hn
  go_wp2_with (first
   | (go_at_call 75;refine CL.out.mono ?_;rintro e w1 ⟨rfl,rfl⟩;clear CL)
   | (go_at_call 76;refine CP.out.mono ?_;rintro e w2 ⟨y,s,m,t,zs,rfl,hy,hys,hqz,hkz,hzl,hzm⟩;have HY:=Hd hy;have HYS:=Hd hys;have HQZ:=Hd hqz;have HKZ:=Hd hkz;have HZL:=Hd hzl;have HZM:=Hd hzm;clear hy hys hqz hkz hzl hzm CP;unfold itA))
  have hba:Below w2.heap.size w2 (w2.alloc (.cells #[.int .i64 (y.1.1.1:Int),.int .i64 (y.1.1.2.1:Int),.slice s m t,.int .i64 (y.2:Int)] 100)):=(Below.refl _ _).alloc (Nat.le_refl _) _
  have HQ2:=Hd (HQZ.out.ext hba)
  have HT2:=Hd ((HT.out.kpQ HQZ.out.below HKZ.out).ext hba)
  have hyx:=HM.out y HY.out
  have CT:=Hd (zVn HT2.out (by have:=HN.out;omega) hl y HYS.out (HX.out.row _ hyx) (HX.out.few _ hyx) (List.mem_map_of_mem hyx) (HX.out.at' _ hyx))
  unfold itA at CT
  have HR:Hid (∀ ov' P' F' w',TkIn w gp l (xs.map (·.1)) ve ov' P' F' F' w'→KpT (w2.alloc (.cells #[.int .i64 (y.1.1.1:Int),.int .i64 (y.1.1.2.1:Int),.slice s m t,.int .i64 (y.2:Int)] 100)) w'→P'.length≤P.length+1→drRel w gq gp l xs ve N w'∧drMu gq w'<drMu gq w1):=Hd fun ov' P' F' w' h1 h2 h3=>by
   have hq':=h2.queue HQ2.out h1.below
   refine ⟨⟨zs,ov',P',F',hq',h1,fun z hz=>HS.out z (HZM.out z hz),fun z hz=>HM.out z (HZM.out z hz),by have:=HN.out;have:=HZL.out;omega⟩,?_⟩
   rw [hq'.mu,HMU.out,HZL.out]
   exact Nat.lt_succ_self _
  clear hba hyx
  go_wp2_with fail
  refine CT.out.mono ?_
  intro e w4 h4
  unfold takePost at h4
  obtain ⟨rfl,ov',P',F',h1,h2,h3⟩:=h4
  have HE:=Hd (HR.out ov' P' F' w4 h1 h2 h3)
  clear h1 h2 h3
  go_wp2_with fail
  exact HE.out
end Go.Proofs.YtfalelkfhandfaaGreatDoor
namespace Go.Proofs.YtfalelkfhandfaaGreatDoor
set_option maxRecDepth 100000
set_option maxHeartbeats 32000000
set_option linter.all false
attribute [local irreducible] Calls
open Go.RowKit

def pkRel (w:World) (gq:Nat) (xs:List MchX) (iv:Value) (wr:World):Prop :=
 ∃ (i:Nat) (ys:List It),iv=.int .i64 (i:Int)∧i≤xs.length∧QIn w gq ys wr∧SlI ys∧(∀ y∈ys,y.1∈xs)∧ys.length=i
@[irreducible] def pickPost (w:World) (l:List Prt) (xs:List MchX) (e:Ending) (w':World):Prop :=
 ∃ ov P,e=.returned (.tuple #[ov,.int .i64 0])∧Below w.heap.size w w'∧vF w' ov P∧(∀ x∈P,∃ m∈xs.map (·.1),x.1=pkM m)∧FreeP l 0 (P.map (·.1))∧P.length≤xs.length
theorem MsOK.at {w W:World} {l:List Prt} {xs:List MchX} {a:Option Addr} {c:Nat} (h:MsOK w l xs) (hm:MchsIn w (.slice a xs.length c) xs) (hb:Below w.heap.size w W) {i:Nat} (hi:i<xs.length) :
  ∃ b off s m t,a=some ⟨b,off,none⟩∧xs.length≤c∧(xs[i]).2=.slice s m t∧W.cell? ⟨b,off+i*3,none⟩=some (.int .i64 ((xs[i]).1.1:Int))∧W.cell? ⟨b,off+i*3+1,none⟩=some (.int .i64 ((xs[i]).1.2.1:Int))∧W.cell? ⟨b,off+i*3+2,none⟩=some (.slice s m t):=by
 obtain ⟨b,off,rfl,hc,_,hcell⟩:=MchsIn.at hm hb (show 0<xs.length by omega)
 obtain ⟨s,t,hs,_⟩:=Row.shape (h.row _ (List.getElem_mem hi))
 obtain ⟨h0,h1,h2⟩:=hcell i hi
 exact ⟨b,off,s,_,t,rfl,hc,hs,h0,h1,by rw [h2,hs]⟩
theorem zPy (w:World) (vl:Value) (l:List Prt) (hlr:zG w vl l) (hl:l.length≤1048576) (hw:zZ l=true) (vm:Value) (xs:List MchX) (hm:MchsIn w vm xs) (hx:MsOK w l xs) (hn:xs.length≤800000) :
  Calls Tryz.prog 33 #[vl,vm] w (pickPost w l xs):=by
 have HQ:Hid (∀ ov P w',Below w.heap.size w w'→vF w' ov P→(∀ x∈P,∃ m∈xs.map (·.1),x.1=pkM m)→FreeP l 0 (P.map (·.1))→P.length≤xs.length→pickPost w l xs (.returned (.tuple #[ov,.int .i64 0])) w'):=Hd fun ov P w' h1 h2 h3 h4 h5=>by
  unfold pickPost;exact ⟨ov,P,rfl,h1,h2,h3,h4,h5⟩
 generalize pickPost w l xs=Q at *
 obtain ⟨al,cl,rfl,hcl⟩:=hlr.slice
 obtain ⟨am,cm,rfl,hcm⟩:=hm.shape
 have CW:=Hd (jR l (by omega) _ w hlr)
 rw [hw] at CW
 have HL:=Hd hlr
 have HM:=Hd hm
 have HX:=Hd hx
 have HW:=Hd hw
 clear hlr hm hx hw
 go_enter Tryz.func33,Tryz.ntmps33
 go_wp2_with (first
  | (go_at_call 34;refine CW.out.mono ?_;rintro e w1 ⟨rfl,hb1⟩;have HB1:=Hd hb1;clear hb1 CW))
 have HQ0:Hid (QIn w (w1.heap.size+1) [] ((w1.alloc (.cells #[] 100)).alloc (.cells #[.slice (some ⟨w1.heap.size,0,none⟩) 0 0] 97))):=Hd (by
  have h1:=HB1.out.size
  refine ⟨(HB1.out.alloc h1 _).alloc (by simp;omega) _,by omega,.slice (some ⟨w1.heap.size,0,none⟩) 0 0,?_,zL (zDl w1 w.heap.size 100 4 h1) ((Below.refl _ _).alloc (Nat.le_refl _) _)⟩
  have:=heap_alloc_new (w1.alloc (.cells #[] 100)) (.cells #[.slice (some ⟨w1.heap.size,0,none⟩) 0 0] 97)
  rw [World.size_alloc] at this;exact this)
 go_loopw [17] (fun iv wr=>pkRel w (w1.heap.size+1) xs iv wr) (fun iv _=>xs.length-(intOf iv).toNat)
 case atStart=>exact ⟨0,[],rfl,Nat.zero_le _,HQ0.out,(fun y hy=>by cases hy),(fun y hy=>by cases hy),rfl⟩
 case round =>
  clear HQ0
  generalize w1.heap.size+1=gq at *
  obtain ⟨i,ys,rfl,hi,hq,hs,hmem,hyl⟩:=hrel
  by_cases hlt:i<xs.length
  ·obtain ⟨b,off,s,m,t,rfl,hc,hsl,c0,c1,c2⟩:=HX.out.at HM.out hq.below hlt
   have hpl:=HX.out.at' _ (List.getElem_mem hlt)
   have hxm:=List.getElem_mem hlt
   generalize xs[i]=x at *
   obtain ⟨⟨xr,xp,xb⟩,xv⟩:=x
   simp only [] at hsl c0 c1 c2 hpl
   subst hsl
   have hba:Below wr.heap.size wr (wr.alloc (.cells #[.int .i64 (xr:Int),.int .i64 (xp:Int),.slice s m t] 47)):=(Below.refl _ _).alloc (Nat.le_refl _) _
   have CP:=Hd (zPk (hq.ext hba) hs (by omega) (((xr,xp,xb),.slice s m t),i) rfl)
   unfold itA at CP
   simp only [] at CP
   have HE:Hid (∀ zs w',QIn w gq zs w'→SubI zs (ys++[(((xr,xp,xb),.slice s m t),i)])→pkRel w gq xs (.int .i64 ((i:Int)+1)) w'):=Hd fun zs w' h1 h2=>by
    refine ⟨i+1,zs,by push_cast;rfl,hlt,h1,h2.sl (hs.snoc rfl),fun y hy=>?_,by rw [h2.1,List.length_append,hyl];rfl⟩
    rcases List.mem_append.1 (h2.2 y hy) with h | h
    ·exact hmem y h
    ·obtain rfl:=List.mem_singleton.1 h
     exact hxm
   have hi0:(0:Int)≤i:=by omega
   have hil:(i:Int)<xs.length:=by omega
   have hic:(i:Int)<cm:=by omega
   have hcap:off+i*3+2<off+xs.length*3:=by omega
   have g1:¬ (xp:Int)<0:=by omega
   have g2:¬ (l.length:Int)≤xp:=by omega
   have g3:¬ (xr:Int)<0:=by omega
   clear hq hs hmem hba hxm hyl
   go_wp2_with (first
    | (go_at_call 55;refine CP.out.mono ?_;rintro e w3 ⟨rfl,zs,h1,h2,h3⟩;have HR:=Hd (HE.out zs w3 h1 h3);clear h1 h2 h3))
   exact ⟨HR.out,by simp only [intOf];omega⟩
  ·have CE:=Hd (zPz l (by omega) _ (zI HW.out) _ wr (HL.out.below hq.below))
   have HQI:=Hd hq
   have HSI:=Hd hs
   have HMI:=Hd hmem
   have HYL:Hid (ys.length≤xs.length):=Hd (by omega)
   have hil:¬ (i:Int)<xs.length:=by omega
   clear hq hs hmem hyl
   go_wp2_with (first
    | (go_at_call 56;refine CE.out.mono ?_;intro e w3 h3;unfold ends2Post at h3;obtain ⟨ve,rfl,hb3,ho3⟩:=h3;obtain ⟨ea,en,ec,rfl⟩:=zC ho3;have HB3:=Hd hb3;have HO3:=Hd ho3;clear hb3 ho3 CE))
   have hba:Below w3.heap.size w3 (w3.alloc (.cells #[.slice ea en ec,.slice none 0 0,.int .i64 0] 103)):=(Below.refl _ _).alloc (Nat.le_refl _) _
   have hq4:=(HQI.out.ext HB3.out).ext hba
   have hsz:=(HQI.out.ext HB3.out).below.size
   have ht4:TkIn w w3.heap.size l (xs.map (·.1)) (.slice ea en ec) (.slice none 0 0) [] 0 0 (w3.alloc (.cells #[.slice ea en ec,.slice none 0 0,.int .i64 0] 103)):=⟨hq4.below,hsz,heap_alloc_new _ _,zL (fV HO3.out HQI.out.below.size) hba,World.ownsRow_nil _ _ _ _,(fun x hx=>by cases hx),(fun x hx=>by cases hx),fun Q h=>h⟩
   have CD:=Hd (zTf hq4 ht4 HSI.out HMI.out HX.out (by omega) (N:=xs.length) (by have:=HYL.out;simp only [List.length_nil];omega) (by omega))
   clear hba hq4 hsz ht4
   go_wp2_with (first
    | (go_at_call 57;refine CD.out.mono ?_;intro e w5 h5;unfold drainPost at h5;obtain ⟨rfl,ov,P,F',ht,hp⟩:=h5;obtain ⟨oa,on,oc,rfl⟩:=zC ht.out;obtain ⟨-,d1,-,-⟩:=ht.cells;have HE:=Hd (HQ.out _ P w5 ht.below ⟨Row.of_owns ht.out,fun x hx=>Row.of_owns (ht.binds x hx)⟩ ht.mem (by have h:=ht.free [] trivial;rwa [List.append_nil] at h) hp);clear ht hp CD))
   exact HE.out
end Go.Proofs.YtfalelkfhandfaaGreatDoor
namespace Go.Proofs.YtfalelkfhandfaaGreatDoor
set_option linter.all false
attribute [local irreducible] Calls
open Go.RowKit

def FlatF (rules:List RuleM) (l:List Prt) (w0:World) (e:Ending) (w':World):Prop :=
 ∃ va vc xs,e=.returned (.tuple #[.slice va xs.length vc,.int .i64 (yB rules l)])∧xs.length≤vc∧xs.map (·.1)=(if yB rules l=0 then allM rules l else [])∧MchsIn w' (.slice va xs.length vc) xs∧Below w0.heap.size w0 w'∧w'.ownsRow w0.heap.size 47 3 (.slice va xs.length vc) xs.length (mchsV xs)∧∀ x∈xs,MemM w0.heap.size x w'
theorem zSb (rs:List RuleX) (hs:∀ x∈rs,SmallR x.1) (l:List Prt) (hl:SmallL l) (vr vl:Value) (w:World) (hT:Tabs w) (hM:MaxC w) (hr:yY w vr rs) (hlr:zG w vl l) :
  Calls Tryz.prog 32 #[vr,vl] w (FlatF (rs.map (·.1)) l w):=by
 refine (zRi rs hs l hl vr vl w hT hM hr hlr).mono fun e w' h=>?_
 unfold fallPost at h
 obtain ⟨hb,v,xs,he,hxs,hown,hmem⟩:=h
 obtain ⟨va,vc,rfl,hvc⟩:=Row.shape (Row.of_owns hown)
 exact ⟨va,vc,xs,he,hvc,hxs,⟨Row.of_owns hown,fun x hx=>Row.of_owns (hmem x hx)⟩,hb,hown,hmem⟩
theorem zMo {rules:List RuleM} {l:List Prt} (hs:∀ r∈rules,r.holes.length≤1048576) (hl:l.length≤1048576):∀ m∈allM rules l,m.2.2.length≤1048576:=by
 intro m hm
 obtain ⟨_,r,τ,hr,ha,he⟩:=zDw.1 hm
 rw [he,(zCr ha hl).1]
 exact hs r (List.mem_of_getElem? hr)
end Go.Proofs.YtfalelkfhandfaaGreatDoor
namespace Go.Proofs.YtfalelkfhandfaaGreatDoor
set_option maxRecDepth 100000
set_option maxHeartbeats 32000000
set_option linter.all false
attribute [local irreducible] Calls
open Go.RowKit

theorem zTg (rules:List RuleM) (l:List Prt):(allM rules l).length≤l.length*rules.length:=by
 have h:=zJz rules l l.length 0
 unfold accM at h
 simp only [List.range_zero,List.flatMap_nil,List.append_nil,Nat.add_zero] at h
 exact h
@[irreducible] def pickedPost (rules:List RuleM) (l:List Prt) (w:World) (e:Ending) (w':World):Prop :=
 Below w.heap.size w w'∧∃ ov ok P,e=.returned (.tuple #[ov,.bool ok])∧(ok=true→yB rules l=0∧vF w' ov P∧(∀ x∈P,∃ m∈allM rules l,x.1=pkM m)∧FreeP l 0 (P.map (·.1))∧P.length≤800000)
theorem zNd (rs:List RuleX) (hs:∀ x∈rs,SmallR x.1) (l:List Prt) (hl:SmallL l) (hN:l.length*rs.length≤800000) (vr vl:Value) (w:World) (hT:Tabs w) (hM:MaxC w) (hr:yY w vr rs) (hlr:zG w vl l) :
  Calls Tryz.prog 12 #[vr,vl] w (pickedPost (rs.map (·.1)) l w):=by
 have HQ:Hid (∀ ov ok P w',Below w.heap.size w w'→(ok=true→yB (rs.map (·.1)) l=0∧vF w' ov P∧(∀ x∈P,∃ m∈allM (rs.map (·.1)) l,x.1=pkM m)∧FreeP l 0 (P.map (·.1))∧P.length≤800000)→pickedPost (rs.map (·.1)) l w (.returned (.tuple #[ov,.bool ok])) w'):=Hd fun ov ok P w' h1 h2=>by
  unfold pickedPost;exact ⟨h1,ov,ok,P,rfl,h2⟩
 generalize pickedPost (rs.map (·.1)) l w=Q at *
 have CA:=Hd (zSb rs hs l hl vr vl w hT hM hr hlr)
 have hsm:=zMo (rules:=rs.map (·.1)) (l:=l) (fun r hr=>by obtain ⟨x,hx,rfl⟩:=List.mem_map.1 hr;exact (hs x hx).h.1) hl.1
 have hlen:=zTg (rs.map (·.1)) l
 rw [List.length_map] at hlen
 have HSM:=Hd hsm
 have HLE:Hid ((allM (rs.map (·.1)) l).length≤800000):=Hd (by omega)
 have HL:=Hd hl
 have HLR:=Hd hlr
 clear hs hl hT hM hr hlr hsm hlen hN
 generalize rs.map (·.1)=rules at *
 go_enter Tryz.func12,Tryz.ntmps12
 go_wp2_with fail
 refine CA.out.mono ?_
 rintro e w1 ⟨va,vc,xs,rfl,hvc,hxs,hmx,hb1,-,-⟩
 have HB1:=Hd hb1
 clear hb1 CA
 by_cases hz:yB rules l=0
 case neg =>
  have HX:=Hd (HQ.out (.slice none 0 0) false [] w1 HB1.out (fun h=>by cases h))
  have g1:(yB rules l != 0)=true:=by rw [bne_iff_ne];exact hz
  clear hxs hmx hz
  generalize yB rules l=z at *
  go_wp2_with fail
  exact HX.out
 rw [if_pos hz] at hxs
 rw [hz]
 have hok:MsOK w1 l xs:=⟨fun x hx=>by
  have:x.1∈allM rules l:=by rw [← hxs];exact List.mem_map_of_mem hx
  exact (zDw.1 this).1,fun x hx=>hmx.E x hx,fun x hx=>by
  have:x.1∈allM rules l:=by rw [← hxs];exact List.mem_map_of_mem hx
  exact HSM.out _ this⟩
 have hxl:xs.length≤800000:=by
  have:=HLE.out
  rw [← hxs,List.length_map] at this
  exact this
 have CP:=Hd (zPy w1 _ l (HLR.out.below HB1.out) (by have:=HL.out.1;omega) (kF.1 hz).1 _ xs hmx hok hxl)
 have HXS:=Hd hxs
 have HZ:=Hd hz
 clear hmx hok hxs hz hvc HSM HLE
 go_wp2_with fail
 refine CP.out.mono ?_
 intro e w2 h2
 unfold pickPost at h2
 obtain ⟨ov,P,rfl,hb2,hp,hm,hf,hpl⟩:=h2
 rw [HXS.out] at hm
 have HX:=Hd (HQ.out ov true P w2 (zB HB1.out hb2) (fun _=>⟨HZ.out,hp,hm,hf,by omega⟩))
 clear hb2 hp hm hf CP
 go_wp2_with fail
 exact HX.out
end Go.Proofs.YtfalelkfhandfaaGreatDoor
