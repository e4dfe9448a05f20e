/- Rules, holes and binds as memory holds them. -/
import Derived.Test.YtbjkdmbcpkopjaaGreatDoorCheckBMt
import Derived.Test.YtbjkdmbcpkopjaaGreatDoorCoreMt
import Derived.Test.YtbjkdmbcpkopjaaGreatDoorMatchPMt
import Derived.Test.YtbjkdmbcpkopjaaGreatDoorTermMt
import Derived.Test.YtbjkdmbcpkopjaaGreatDoorStillMt
namespace Go.Proofs.YtbjkdmbcpkopjaaGreatDoor
set_option linter.all false
open Go.RowKit

theorem Row.cells {w w':World} {v:Value} {n sz:Nat} {cs:List Value} (h:Row w v n sz cs) (hb:Below w.heap.size w w') (hn:0<n) :
  ∃ b off cap,v=.slice (some ⟨b,off,none⟩) n cap∧n≤cap∧b<w.heap.size∧∀ i,i<n*sz→w'.cell? ⟨b,off+i,none⟩=cs[i]?:=by
 obtain ⟨h1,a,cap,hv,hc,hz,h2⟩:=h;obtain ⟨b,off,ha,hlt,hcell⟩:=h2 hn;subst ha;exact ⟨b,off,cap,hv,hc,hlt,fun i hi=>by rw [hb.cell (p:=⟨b,off+i,none⟩) hlt];exact hcell i hi⟩
theorem Row.shape {w:World} {v:Value} {n sz:Nat} {cs:List Value} (h:Row w v n sz cs):∃ a cap,v=.slice a n cap∧n≤cap:=by
 obtain ⟨_,a,cap,hv,hc,_⟩:=h;exact ⟨a,cap,hv,hc⟩
theorem vO {α:Type} {g:α→List Value} {sz:Nat} (hg:∀ x,(g x).length=sz):∀ (l:List α) (i j:Nat) (hi:i<l.length),j<sz→(l.flatMap g)[i*sz+j]?=(g l[i])[j]?
 | x::l,0,j,_,hj=>by
  rw [List.flatMap_cons,Nat.zero_mul,Nat.zero_add,List.getElem?_append_left (by rw [hg];exact hj)];rfl
 | x::l,i+1,j,hi,hj=>by
  have h1:(g x).length≤(i+1)*sz+j:=by rw [hg,Nat.add_mul];omega
  rw [List.flatMap_cons,List.getElem?_append_right h1,hg,show (i+1)*sz+j-sz=i*sz+j by rw [Nat.add_mul];omega];rw [vO hg l i j (by simpa using hi) hj];rfl
theorem zHt {α:Type} {g:α→List Value} {sz:Nat} (hg:∀ x,(g x).length=sz):∀ l:List α,(l.flatMap g).length=l.length*sz
 | []=>by simp
 | x::l=>by rw [List.flatMap_cons,lA,hg,zHt hg l,lC,Nat.add_mul];omega
def holeV (h:Hl):List Value:=[.string h.1,.int .u8 (h.2:Int)]
def holesV (hs:List Hl):List Value:=hs.flatMap holeV
def HoleRow (w:World) (v:Value) (hs:List Hl):Prop:=Row w v hs.length 2 (holesV hs)
theorem HoleRow.below {w w':World} {v:Value} {hs:List Hl} (h:HoleRow w v hs) (hb:Below w.heap.size w w'):HoleRow w' v hs:=Row.below h hb
theorem HoleRow.at {w w':World} {a:Option Addr} {n cap:Nat} {hs:List Hl} (h:HoleRow w (.slice a n cap) hs) (hb:Below w.heap.size w w') (hp:0<hs.length) :
  ∃ b off,a=some ⟨b,off,none⟩∧n=hs.length∧hs.length≤cap∧b<w.heap.size∧∀ i (hi:i<hs.length),w'.cell? ⟨b,off+i*2,none⟩=some (.string hs[i].1)∧w'.cell? ⟨b,off+i*2+1,none⟩=some (.int .u8 (hs[i].2:Int)):=by
 obtain ⟨b,off,cap',hv,hc,hlt,hcell⟩:=Row.cells h hb hp;simp only [Value.slice.injEq] at hv;obtain ⟨rfl,rfl,rfl⟩:=hv;refine ⟨b,off,rfl,rfl,hc,hlt,fun i hi=>⟨?_,?_⟩⟩
 ·rw [hcell _ (by omega)];have:=vO (g:=holeV) (sz:=2) (fun _=>rfl) hs i 0 hi (by omega);rw [Nat.add_zero] at this;exact this
 ·rw [Nat.add_assoc,hcell _ (by omega)];exact vO (g:=holeV) (sz:=2) (fun _=>rfl) hs i 1 hi (by omega)
def bindV (b:Bnd):List Value:=[.string b.1,.int .i64 b.2.1,.int .i64 b.2.2]
def bindsV (bs:List Bnd):List Value:=bs.flatMap bindV
theorem gQ (bs:List Bnd):(bindsV bs).length=bs.length*3:=zHt (g:=bindV) (sz:=3) (fun _=>rfl) bs
def BindRow (w:World) (v:Value) (bs:List Bnd):Prop:=Row w v bs.length 3 (bindsV bs)
theorem BindRow.below {w w':World} {v:Value} {bs:List Bnd} (h:BindRow w v bs) (hb:Below w.heap.size w w'):BindRow w' v bs:=Row.below h hb
theorem BindRow.at {w w':World} {a:Option Addr} {n cap:Nat} {bs:List Bnd} (h:BindRow w (.slice a n cap) bs) (hb:Below w.heap.size w w') (hp:0<bs.length) :
  ∃ b off,a=some ⟨b,off,none⟩∧n=bs.length∧bs.length≤cap∧b<w.heap.size∧∀ i (hi:i<bs.length),w'.cell? ⟨b,off+i*3,none⟩=some (.string bs[i].1)∧w'.cell? ⟨b,off+i*3+1,none⟩=some (.int .i64 bs[i].2.1)∧w'.cell? ⟨b,off+i*3+2,none⟩=some (.int .i64 bs[i].2.2):=by
 obtain ⟨b,off,cap',hv,hc,hlt,hcell⟩:=Row.cells h hb hp;simp only [Value.slice.injEq] at hv;obtain ⟨rfl,rfl,rfl⟩:=hv;refine ⟨b,off,rfl,rfl,hc,hlt,fun i hi=>⟨?_,?_,?_⟩⟩
 ·rw [hcell _ (by omega)];have:=vO (g:=bindV) (sz:=3) (fun _=>rfl) bs i 0 hi (by omega);rw [Nat.add_zero] at this;exact this
 ·rw [Nat.add_assoc,hcell _ (by omega)];exact vO (g:=bindV) (sz:=3) (fun _=>rfl) bs i 1 hi (by omega)
 ·rw [Nat.add_assoc,hcell _ (by omega)];exact vO (g:=bindV) (sz:=3) (fun _=>rfl) bs i 2 hi (by omega)
def ruleAgg (r:RuleM) (vh vf vb:Value):Value:=.agg #[.string r.nm,.int .u8 (r.goal:Int),vh,vf,vb]
structure RuleIn (w:World) (r:RuleM) (vh vf vb:Value):Prop where
 H:HoleRow w vh r.holes
 F:zF w vf r.fnd
 B:zF w vb r.by'
theorem RuleIn.below {w w':World} {r:RuleM} {vh vf vb:Value} (h:RuleIn w r vh vf vb) (hb:Below w.heap.size w w'):RuleIn w' r vh vf vb:=⟨h.H.below hb,h.F.below hb,h.B.below hb⟩
def SmallL (l:List Prt):Prop:=l.length≤1048576∧∀ p∈l,p.1<256∧p.2.2.size≤1048576
structure SmallR (r:RuleM):Prop where
 n:r.nm.size≤1048576
 g:r.goal<256
 h:r.holes.length≤1048576∧∀ x∈r.holes,x.1.size≤1048576∧x.2<256
 f:SmallL r.fnd
 b:SmallL r.by'
end Go.Proofs.YtbjkdmbcpkopjaaGreatDoor
namespace Go.Proofs.YtbjkdmbcpkopjaaGreatDoor
set_option linter.all false

def UpInv (l:List Prt):List (Nat×Int)→Nat→Prop
 | [],pos=>pos=l.length∨pos=0
 | (o,c)::st,pos=>o<pos∧0≤c∧advT l c.toNat pos (zB l o)=some (zB l o)∧zB l o≤l.length∧(∀ j,o<j→j<pos→zB l j≤pos)∧UpInv l st (zB l o)
theorem UpInv.pop {l:List Prt} {o:Nat} {st:List (Nat×Int)} {pos:Nat} (h:UpInv l ((o,0)::st) pos):UpInv l st pos:=by
 obtain ⟨_,_,h3,_,_,h6⟩:=h;rw [show (0:Int).toNat=0 by rfl,advT] at h3;have:pos=zB l o:=by simpa using h3
 rw [this];exact h6
theorem UpInv.top {l:List Prt} {us:List Nat} (hl:zD l=some us) {o:Nat} {c:Int} {st:List (Nat×Int)} {pos:Nat} (h:UpInv l ((o,c)::st) pos) (hc:c≠0):upN l pos=(o:Int)∧o<pos∧pos<zB l o:=by
 obtain ⟨h1,h2,h3,h4,h5,_⟩:=h;have hlt:pos<zB l o:=by
  obtain ⟨k,hk⟩:∃ k,c.toNat=k+1:=⟨c.toNat-1,by omega⟩;rw [hk,advT] at h3;split at h3
  ·assumption
  ·cases h3
 exact ⟨yDk hl (by omega) h1 hlt h5,h1,hlt⟩
theorem UpInv.push {l:List Prt} {us:List Nat} (hl:zD l=some us) {o:Nat} {c:Int} {st:List (Nat×Int)} {i:Nat} (h:UpInv l ((o,c)::st) i) (hc:c≠0) (hi:i<l.length):UpInv l ((i,(l[i]).2.1)::(o,c-1)::st) (i+1):=by
 obtain ⟨g1,g2,g3⟩:=h.top hl hc;obtain ⟨h1,h2,h3,h4,h5,h6⟩:=h;obtain ⟨q,k1,k2⟩:=xF hl hi;have hg:=zP hl hi;refine ⟨by omega,by omega,by rw [k1];exact k2,hg.2,fun j a b=>by omega,by omega,by omega,?_,h4,fun j a b=>?_,h6⟩
 ·obtain ⟨k,hk⟩:∃ k,c.toNat=k+1:=⟨c.toNat-1,by omega⟩;rw [hk,advT,iP g3] at h3;rw [show (c-1).toNat=k by omega];exact h3
 ·rcases Nat.lt_or_ge j i with a1 | a1
  ·have:=h5 j a a1;omega
  ·exact zSa hl hi a1 b
theorem UpInv.root {l:List Prt} (hl:zV l=true) (h0:0<l.length):UpInv l [(0,(l[0]).2.1)] 1:=by
 have hw:=zJ hl;have hz:=xT hl;obtain ⟨q,k1,k2⟩:=xF hw h0;exact ⟨by omega,by omega,by rw [k1];exact k2,by omega,fun j a b=>by omega,Or.inl hz.2⟩
set_option maxRecDepth 100000
set_option maxHeartbeats 32000000
attribute [local irreducible] Calls
open Go.RowKit
def kindU (l:List Prt) (u:Int):Int:=match kindI l u with
 | some k=>(k:Int)
 | none=>69
theorem zZp (l:List Prt) (i:Nat):-1≤upN l i:=by
 unfold upN;have key:∀ k,-1≤upI l i k:=by
  intro k;induction k with
  | zero=>rw [upI];omega
  | succ k ih=>rw [upI];split <;> omega
 exact key i
theorem zOt (l:List Prt) (i:Nat):upN l i<(i:Int):=by
 unfold upN;have key:∀ k,upI l i k<(k:Int):=by
  intro k;induction k with
  | zero=>rw [upI];omega
  | succ k ih=>rw [upI];split <;> omega
 exact key i
theorem zVt (l:List Prt) (hl:l.length≤1000000000) (v:Value) (u:Int) (h1:-1≤u) (h2:u<l.length) (w:World) (hr:zF w v l) :
  Calls Tryz.prog 113 #[v,.int .i64 u] w fun e w'=>e=.returned (.int .u8 (kindU l u))∧w=w':=by
 have HQ:Hid (∀ x,kindU l u=x→(fun (e:Ending) w'=>e=.returned (.int .u8 (kindU l u))∧w=w') (.returned (.int .u8 x)) w):=Hd fun x h=>⟨by rw [h],rfl⟩
 generalize (fun (e:Ending) w'=>e=.returned (.int .u8 (kindU l u))∧w=w')=Q at *;obtain ⟨va,vcap,rfl,hvc⟩:=hr.slice;by_cases hu:u<0
 ·have HX:=Hd (HQ.out 69 (by unfold kindU kindI;rw [iP hu]));go_enter Tryz.func113,Tryz.ntmps113;go_wp2_with fail;exact HX.out
 ·obtain ⟨k,rfl⟩:∃ k:Nat,u=(k:Int):=⟨u.toNat,by omega⟩;have hk:k<l.length:=by omega
  obtain ⟨b,off,rfl,_,_,hbl,hcell⟩:=hr.at (bR _ _) (show 0<l.length by omega);have c0:=(hcell k hk).1;have hk0:(0:Int)≤(k:Int):=by omega
  have hkl:(k:Int)<l.length:=by omega
  have hneg:¬ (k:Int)<0:=by omega
  have HX:=Hd (HQ.out ((l[k]).1:Int) (by unfold kindU kindI;rw [iN hneg,Int.toNat_natCast,gE hk];rfl));clear hcell hr HQ;generalize (l[k]).1=x at *;go_enter Tryz.func113,Tryz.ntmps113;go_wp2_with fail;exact HX.out
def upsL (l:List Prt):List Int:=(List.range l.length).map (upN l)
theorem vZ (l:List Prt):(upsL l).length=l.length:=by simp [upsL]
theorem zHm {l:List Prt} {j:Nat} (hj:j<(upsL l).length):(upsL l)[j]=upN l j:=by simp [upsL]
theorem zFk (l:List Prt) (u:Int) (n:Nat) (hn:n≠69):(kindI l u == some n)=(kindU l u == (n:Int)):=by
 unfold kindU;cases kindI l u with
 | none=>simp;omega
 | some k=>rw [Bool.eq_iff_iff];simp;omega
theorem zOu (l:List Prt) (hl:l.length≤1000000000) (v vup:Value) (w:World) (hr:zF w v l) (hup:zI w vup .i64 (upsL l)) (i:Nat) (hi:i<l.length) (k:Nat) :
  Calls Tryz.prog 76 #[v,vup,.int .i64 (i:Int),.int .u8 (k:Int)] w fun e w'=>e=.returned (.bool (xZ l k i))∧w=w':=by
 have HQ:Hid (∀ x,xZ l k i=x→(fun (e:Ending) w'=>e=.returned (.bool (xZ l k i))∧w=w') (.returned (.bool x)) w):=Hd fun x h=>⟨by rw [h],rfl⟩
 generalize (fun (e:Ending) w'=>e=.returned (.bool (xZ l k i))∧w=w')=Q at *;have hge:=zZp l i;have hlt:=zOt l i;have CK:=Hd (fun u h1 h2=>zVt l hl v u h1 h2 w hr);obtain ⟨ua,ucap,hv,hc,hrow⟩:=hup.open';obtain ⟨b,off,rfl,_,hcell⟩:=hrow (by rw [vZ];omega);subst hv;have c0:w.cell? ⟨b,off+i,none⟩=some (.int .i64 (upN l i)):=by rw [hcell i (by rw [vZ];exact hi),zHm]
 rw [vZ] at hc ⊢;have HC:=Hd hcell;have hi0:(0:Int)≤(i:Int):=by omega
 have hil:(i:Int)<l.length:=by omega
 clear hrow hup hr hcell;have HP:Hid (xZ l k i=if k=5 then kindU l (upN l i) == 50 else if k=7 then (kindU l (upN l i) == 50&&kindU l (upN l (upN l i).toNat) == 13) else if k=6 then (kindU l (upN l i) == 11 || kindU l (upN l i) == 12) else true):=Hd (by
  unfold xZ;rw [zFk _ _ 50 (by omega),zFk _ _ 13 (by omega),zFk _ _ 11 (by omega),zFk _ _ 12 (by omega)];rfl)
 have C1:=Hd (CK.out (upN l i) hge (by omega));by_cases k5:k=5
 ·subst k5;have HX:=Hd (HQ.out _ HP.out);rw [iP rfl] at HX;generalize upN l i=u at *;generalize kindU l u=x at *;go_enter Tryz.func76,Tryz.ntmps76;go_wp2_with fail;refine C1.out.mono ?_;rintro e w2 ⟨rfl,rfl⟩;go_wp2_with fail;exact HX.out
 have hn5:((k:Int) == 5)=false:=by rw [bE];omega
 have hm5:(k == 5)=false:=by rw [bE];exact k5
 by_cases k7:k=7
 ·subst k7;have HX:=Hd (HQ.out _ HP.out);rw [iN (by omega),iP rfl] at HX;by_cases hx:kindU l (upN l i)=50
  ·have hu0:0≤upN l i:=by
    by_cases c:upN l i<0
    ·unfold kindU kindI at hx;rw [iP c] at hx;cases hx
    ·omega
   obtain ⟨j,hj⟩:∃ j:Nat,upN l i=(j:Int):=⟨(upN l i).toNat,by omega⟩;have hjl:j<l.length:=by omega
   have c1:w.cell? ⟨b,off+j,none⟩=some (.int .i64 (upN l j)):=by rw [HC.out j (by rw [vZ];exact hjl),zHm]
   have C2:=Hd (CK.out (upN l j) (zZp l j) (by have:=zOt l j;omega));rw [hx,hj,Int.toNat_natCast] at HX;rw [hx] at C1;rw [hj] at C1 c0;have hj0:(0:Int)≤(j:Int):=by omega
   have hjli:(j:Int)<l.length:=by omega
   clear hx hj hge hlt hu0 HP HQ;generalize upN l j=u at *;generalize kindU l u=y at *;go_enter Tryz.func76,Tryz.ntmps76;go_wp2_with fail;refine C1.out.mono ?_;rintro e w2 ⟨rfl,rfl⟩;go_wp2_with fail;refine C2.out.mono ?_;rintro e w2 ⟨rfl,rfl⟩;go_wp2_with fail;exact HX.out
  ·have hxb:(kindU l (upN l i) == 50)=false:=by rw [bE];exact hx
   rw [hxb,Bool.false_and] at HX;clear hx HP HQ;generalize upN l i=u at *;generalize kindU l u=x at *;go_enter Tryz.func76,Tryz.ntmps76;go_wp2_with fail;refine C1.out.mono ?_;rintro e w2 ⟨rfl,rfl⟩;go_wp2_with fail;exact HX.out
 have hn7:((k:Int) == 7)=false:=by rw [bE];omega
 have hm7:(k == 7)=false:=by rw [bE];exact k7
 by_cases k6:k=6
 ·subst k6;have HX:=Hd (HQ.out _ HP.out);rw [iN (by omega),iN (by omega),iP rfl] at HX;clear HP HQ;generalize upN l i=u at *;generalize kindU l u=x at *;cases hx:x == 11 with
  | true =>
   rw [hx,Bool.true_or] at HX;go_enter Tryz.func76,Tryz.ntmps76;go_wp2_with fail;refine C1.out.mono ?_;rintro e w2 ⟨rfl,rfl⟩;go_wp2_with fail;exact HX.out
  | false =>
   rw [hx,Bool.false_or] at HX;go_enter Tryz.func76,Tryz.ntmps76;go_wp2_with fail;refine C1.out.mono ?_;rintro e w2 ⟨rfl,rfl⟩;go_wp2_with fail;refine C1.out.mono ?_;rintro e w2 ⟨rfl,rfl⟩;go_wp2_with fail;exact HX.out
 ·have hn6:((k:Int) == 6)=false:=by rw [bE];omega
  have HX:=Hd (HQ.out _ HP.out);rw [iN k5,iN k7,iN k6] at HX;clear HP HQ;go_enter Tryz.func76,Tryz.ntmps76;go_wp2_with fail;exact HX.out
theorem zAr {x y:ByteArray} (h:x≠y):x.toList≠y.toList:=fun e=>h (by
 rw [ByteArray.toList_eq,ByteArray.toList_eq] at e;exact ByteArray.ext (Array.ext' e))
def UpsC (l:List Prt):Prop:=∀ (v:Value) (w:World),zF w v l→Calls Tryz.prog 75 #[v] w fun e w'=>∃ v',e=.returned v'∧Below w.heap.size w w'∧zI w' v' .i64 (upsL l)
@[irreducible] def yT (z:Int) (w0:World) (e:Ending) (w':World):Prop :=
 Below w0.heap.size w0 w'∧e=if 0≤z then .returned (.tuple #[.int .i64 z,.bool true]) else .returned (.tuple #[.int .i64 0,.bool false])
def plRel (l:List Prt) (h:Hl) (w0:World) (nv iv:Value) (wr:World):Prop :=
 ∃ k n:Nat,iv=.int .i64 (k:Int)∧nv=.int .i64 (n:Int)∧k≤l.length∧n≤k∧vH l h (l.length-k) k (n:Int)=yK l h∧Below w0.heap.size w0 wr
theorem gN (l:List Prt) (hl:l.length≤1000000000) (hf:∀ p∈l,p.1<256) (CU:UpsC l) (v:Value) (h:Hl) (w:World) (hr:zF w v l) :
  Calls Tryz.prog 50 #[v,.agg #[.string h.1,.int .u8 (h.2:Int)]] w (yT (yK l h) w):=by
 have HQ:Hid (∀ w',Below w.heap.size w w'→0≤yK l h→yT (yK l h) w (.returned (.tuple #[.int .i64 (yK l h),.bool true])) w'):=Hd fun w' hb hz=>by
  unfold yT;rw [iP hz];exact ⟨hb,rfl⟩
 have HN:Hid (∀ w',Below w.heap.size w w'→yK l h=-1→yT (yK l h) w (.returned (.tuple #[.int .i64 0,.bool false])) w'):=Hd fun w' hb hz=>by
  unfold yT;rw [iN (by omega)];exact ⟨hb,rfl⟩
 generalize yT (yK l h) w=Q at *;have hbx:Below w.heap.size w (w.alloc (.cells #[.string h.1,.int .u8 (h.2:Int)] 50)):=(bR _ _).alloc (nR _) _;have HBX:=Hd hbx;have CU:=Hd (CU v _ (hr.below hbx));have e0:(w.alloc (.cells #[.string h.1,.int .u8 (h.2:Int)] 50)).cell? ⟨w.heap.size,0,none⟩=some (.string h.1):=World.cell?_alloc_at _ _ _ _ rfl;have e1:(w.alloc (.cells #[.string h.1,.int .u8 (h.2:Int)] 50)).cell? ⟨w.heap.size,1,none⟩=some (.int .u8 (h.2:Int)):=World.cell?_alloc_at _ _ _ _ rfl;have hz0:w.heap.size<(w.alloc (.cells #[.string h.1,.int .u8 (h.2:Int)] 50)).heap.size:=by simp
 have HR:=Hd hr;obtain ⟨va,vcap,rfl,hvc⟩:=hr.slice;clear hr hbx;go_enter Tryz.func50,Tryz.ntmps50;go_wp2_with fail;refine CU.out.mono ?_;rintro e w1 ⟨vu,rfl,hb1,hup⟩;have HB1:=Hd (zC HBX.out hb1);have HU:=Hd hup;have HE0:=Hd (show w1.cell? ⟨w.heap.size,0,none⟩=some (.string h.1) by rw [hb1.cell (p:=⟨w.heap.size,0,none⟩) hz0];exact e0);have HE1:=Hd (show w1.cell? ⟨w.heap.size,1,none⟩=some (.int .u8 (h.2:Int)) by rw [hb1.cell (p:=⟨w.heap.size,1,none⟩) hz0];exact e1);have HZ1:=Hd (show w.heap.size<w1.heap.size from Nat.lt_of_lt_of_le hz0 hb1.size);obtain ⟨ua,ucap,hvu,_,_⟩:=hup.open';subst hvu;clear hb1 hup e0 e1 hz0 CU HBX;go_wp2_with fail;go_loopw [6,14] (fun nv iv wr=>plRel l h w1 nv iv wr) (fun _ iv _=>l.length-(intOf iv).toNat)
 case atStart=>exact ⟨0,0,rfl,rfl,Nat.zero_le _,nR _,rfl,bR _ _⟩
 case round =>
  obtain ⟨k,n,rfl,rfl,hk,hnk,hpf,hb⟩:=hrel;have HB:=Hd hb;have HPF:=Hd hpf;clear hb hpf;by_cases hlt:k<l.length
  ·obtain ⟨b,off,rfl,_,_,hbl,hcell⟩:=HR.out.at (zC HB1.out HB.out) (show 0<l.length by omega);obtain ⟨d0,d1,d2⟩:=hcell k hlt;have hs:=HPF.out;rw [show l.length-k=(l.length-(k+1))+1 by omega,vH,gE hlt] at hs;generalize hp:l[k]=p at *;obtain ⟨a,c,s⟩:=p;simp only [] at d0 d1 d2 hs;have hbp:Below w1.heap.size w1 (wr.alloc (.cells #[.int .u8 (a:Int),.int .i64 c,.string s] 53)):=HB.out.alloc HB.out.size _;have g0:(wr.alloc (.cells #[.int .u8 (a:Int),.int .i64 c,.string s] 53)).cell? ⟨w.heap.size,0,none⟩=some (.string h.1):=by
    rw [hbp.cell (p:=⟨w.heap.size,0,none⟩) HZ1.out];exact HE0.out
   have g1:(wr.alloc (.cells #[.int .u8 (a:Int),.int .i64 c,.string s] 53)).cell? ⟨w.heap.size,1,none⟩=some (.int .u8 (h.2:Int)):=by
    rw [hbp.cell (p:=⟨w.heap.size,1,none⟩) HZ1.out];exact HE1.out
   have hrp:=HR.out.below (zC HB1.out hbp);have CS:=Hd (zOu l hl _ _ _ hrp (HU.out.below hbp) k hlt h.2);have HBP:=Hd hbp;have HS:=Hd hs;clear hbp hrp hs hcell;by_cases ha:a=26
   ·subst ha;rw [show ((26:Nat):Int)=26 from rfl] at d0 g0 g1 CS HBP;by_cases hw:s=h.1
    ·subst hw;by_cases ho:xZ l h.2 k=true
     ·have HX:Hid (vH l h (l.length-(k+1)) (k+1) ((n:Int)+1)=yK l h):=Hd (by
       have:=HS.out;unfold xQ at this;simpa [ho] using this)
      rw [ho] at CS;go_wp2_with fail;refine CS.out.mono ?_;rintro e w2 ⟨rfl,rfl⟩;go_wp2_with fail
      case roundEnd=>exact ⟨⟨k+1,n+1,by push_cast;rfl,by push_cast;rfl,by omega,by omega,by have:=HX.out;push_cast;exact this,HBP.out⟩,by simp only [intOf];omega⟩
     ·have ho:xZ l h.2 k=false:=by simpa using ho
      have HX:Hid (yK l h=-1):=Hd (by
       have:=HS.out;unfold xQ at this;simpa [ho] using this.symm)
      rw [ho] at CS;go_wp2_with fail;refine CS.out.mono ?_;rintro e w2 ⟨rfl,rfl⟩;go_wp2_with fail;exact HN.out _ (zC HB1.out HBP.out) HX.out
    ·have HX:Hid (vH l h (l.length-(k+1)) (k+1) (n:Int)=yK l h):=Hd (by
      have:=HS.out;unfold xQ at this;simpa [hw] using this)
     have g2:(s.toList == h.1.toList)=false:=by rw [bE];exact zAr hw
     go_wp2_with fail
     case roundEnd=>exact ⟨⟨k+1,n,by push_cast;rfl,rfl,by omega,by omega,HX.out,HBP.out⟩,by simp only [intOf];omega⟩
   ·have HX:Hid (vH l h (l.length-(k+1)) (k+1) (n:Int)=yK l h):=Hd (by
     have:=HS.out;unfold xQ at this;simpa [ha] using this)
    have g2:((a:Int) == 26)=false:=by rw [bE];omega
    go_wp2_with fail
    case roundEnd=>exact ⟨⟨k+1,n,by push_cast;rfl,rfl,by omega,by omega,HX.out,HBP.out⟩,by simp only [intOf];omega⟩
  ·have hkl:k=l.length:=by omega
   subst hkl;have hz:=HPF.out;rw [Nat.sub_self,vH] at hz;have HX:=Hd (HQ.out wr (zC HB1.out HB.out) (by omega));rw [← hz] at HX;go_wp2_with fail;exact HX.out
end Go.Proofs.YtbjkdmbcpkopjaaGreatDoor
namespace Go.Proofs.YtbjkdmbcpkopjaaGreatDoor
set_option maxRecDepth 100000
set_option maxHeartbeats 32000000
set_option linter.all false
open Go.RowKit

def e2Rel (l:List Prt) (w:World) (iv:Value) (wr:World):Prop :=
 ∃ (k:Nat) (E:List Int),iv=.int .i64 ((k:Int)-1)∧k≤l.length∧E.length=l.length∧(∀ j,k≤j→j<l.length→E.getD j 0=(zB l j:Int)) ∧
  wr.heap[w.heap.size]?=some (.cells (E.map (Value.int .i64)).toArray 3 (0,0))∧Below w.heap.size w wr
def e2In (l:List Prt) (w:World) (E:List Int) (i q:Nat) (cv:Value) (wr:World):Prop :=
 ∃ c:Nat,cv=.int .i64 (c:Int)∧c≤q∧wr.heap[w.heap.size]?=some (.cells ((E.set i (gP l c (i+1):Int)).map (Value.int .i64)).toArray 3 (0,0))∧Below w.heap.size w wr
@[irreducible] def ends2Post (l:List Prt) (w0:World) (e:Ending) (w':World):Prop :=
 ∃ v,e=.returned v∧Below w0.heap.size w0 w'∧w'.ownsRow w0.heap.size 3 1 v l.length ((endsL l).map (Value.int .i64))
theorem zFw {w:World} {B g:Nat} {n:Nat} {E:List Int} (h:w.heap[g]?=some (.cells (E.map (Value.int .i64)).toArray 3 (0,0))) (hB:B≤g) (hn:E.length=n) (hm:n≤1000000000):w.ownsRow B 3 1 (.slice (some ⟨g,0,none⟩) n n) n (E.map (Value.int .i64)) :=
 ⟨by simp [hn],Or.inr ⟨g,n,_,rfl,hB,h,nR _,by unfold maxLen;omega,by simp [hn],by simp;rw [List.take_of_length_le (by simp [hn])]⟩⟩
theorem zFx (l:List Prt) (hl:l.length≤1000000000) (us:List Nat) (hus:zD l=some us) (v:Value) (w:World) (hr:zF w v l) :
  Calls Tryz.prog 51 #[v] w (ends2Post l w):=by
 have HQ:Hid (∀ v' w',Below w.heap.size w w'→w'.ownsRow w.heap.size 3 1 v' l.length ((endsL l).map (Value.int .i64))→ends2Post l w (.returned v') w'):=Hd fun v' w' h1 h2=>by
  unfold ends2Post;exact ⟨v',rfl,h1,h2⟩
 generalize ends2Post l w=Q at *;have HR:=Hd hr;have HU:=Hd hus;obtain ⟨va,vcap,rfl,hvc⟩:=hr.slice;clear hr hus;have hmk:=fX l.length hl;have hwl:IntKind.i64.wrap ((l.length:Int)-1)=(l.length:Int)-1:=wI (by omega);go_enter Tryz.func51,Tryz.ntmps51
 go_wp2_with fail;have HK0:Hid ((w.alloc (.cells (Array.replicate l.length (Value.int .i64 0)) 3)).heap[w.heap.size]?=some (.cells ((List.replicate l.length (0:Int)).map (Value.int .i64)).toArray 3 (0,0))):=Hd (by
  have:=heap_alloc_new w (.cells (Array.replicate l.length (Value.int .i64 0)) 3);rw [this,List.map_replicate,List.toArray_replicate])
 have HB0:Hid (Below w.heap.size w (w.alloc (.cells (Array.replicate l.length (Value.int .i64 0)) 3))):=Hd ((bR _ _).alloc (nR _) _);generalize w.alloc (.cells (Array.replicate l.length (Value.int .i64 0)) 3)=W0 at *;generalize hBB:w.heap.size=B at *;have HBB:=Hd hBB;clear hBB;go_loopw [4] (fun j wr=>e2Rel l w j wr) (fun j _=>(intOf j+1).toNat)
 case atStart =>
  refine ⟨l.length,List.replicate l.length 0,rfl,nR _,by simp,fun i h1 h2=>by omega,?_,?_⟩
  ·rw [HBB.out];exact HK0.out
  ·rw [HBB.out];exact HB0.out
 case round =>
  obtain ⟨k,E,rfl,hk,hEl,hEq,hh,hb⟩:=hrel;rw [HBB.out] at hh hb;have HB:=Hd hb;have HH:=Hd hh;have HEQ:=Hd hEq;have HEL:=Hd hEl;have hBlt:B<wr.heap.size:=lt_of_block hh;clear hb hh hEq hEl;by_cases hk0:0<k
  ·obtain ⟨i,rfl⟩:∃ i,k=i+1:=⟨k-1,by omega⟩;rw [show (((i+1:Nat):Int)-1)=(i:Int) by omega];have hil:i<l.length:=hk;obtain ⟨b,off,rfl,_,_,hbl,hcell⟩:=HR.out.at (HBB.out ▸ HB.out) (show 0<l.length by omega);obtain ⟨q,hq1,hq2,hq4,hq3⟩:=zTj HU.out hil;have c0:wr.cell? ⟨b,off+i*3+1,none⟩=some (.int .i64 (q:Int)):=by rw [(hcell i hil).2.1,hq1]
   have HKI:=Hd hq3;have HKE:=Hd hq2;have hi0:(0:Int)≤i:=by omega
   have hil':(i:Int)<l.length:=by omega
   have hic:(i:Int)<vcap:=by omega
   have hwi:IntKind.i64.wrap ((i:Int)+1)=(i:Int)+1:=wI (by omega);have hwm:IntKind.i64.wrap ((i:Int)-1)=(i:Int)-1:=wI (by omega);have c1:wr.cell? ⟨B,i,none⟩=some (.int .i64 (E.getD i 0)):=by
    simp [World.cell?,HH.out,HEL.out,hil,gD]
   have z1:wr.frozen? ⟨B,i,none⟩=false:=by simp [World.frozen?,HH.out]
   have hbB:b≠B:=by have:=HBB.out;omega
   have c0':(wr.setCell ⟨B,i,none⟩ (.int .i64 ((i:Int)+1))).cell? ⟨b,off+i*3+1,none⟩=some (.int .i64 (q:Int)):=by
    rw [kR (by exact hbB)];exact c0
   have HAT:Hid (e2In l w E i q (.int .i64 0) (wr.setCell ⟨B,i,none⟩ (.int .i64 ((i:Int)+1)))):=Hd ⟨0,rfl,Nat.zero_le _,by
    rw [HBB.out,heap_setCell_same _ _ _ _ _ _ HH.out,List.setIfInBounds_toArray,← List.map_set];rfl,by
    rw [HBB.out];exact HB.out.setCell (p:=⟨B,i,none⟩) (nR _) _⟩
   clear hcell hq1 hq2 hq3 hk0 c0 hbB;go_wp2_with fail;clear c1 z1 c0';go_loopw [25] (fun cv wx=>e2In l w E i q cv wx) (fun cv _=>q-(intOf cv).toNat)
   case atStart=>exact HAT.out
   case round =>
    obtain ⟨c,rfl,hcq,hh2,hb2⟩:=hrel;rw [HBB.out] at hh2 hb2;have HH2:=Hd hh2;have HB2:=Hd hb2;clear hh2 hb2 HAT;by_cases hlt:c<q
    ·obtain ⟨x1,x2⟩:=HKI.out c hlt;have HXS:=Hd (zBw l c (i+1));generalize gP l c (i+1)=x at *;have d1:wr.cell? ⟨B,i,none⟩=some (.int .i64 (x:Int)):=by
      simp [World.cell?,HH2.out,HEL.out,hil]
     have d2:wr.cell? ⟨B,x,none⟩=some (.int .i64 (zB l x:Int)):=by
      have:=HEQ.out x (by omega) x2;rw [gD] at this;simp only [World.cell?,HH2.out];rw [← this];simp [HEL.out,x2,show ¬ i=x by omega]
     have d3:wr.frozen? ⟨B,i,none⟩=false:=by simp [World.frozen?,HH2.out]
     have HN1:Hid ((wr.setCell ⟨B,i,none⟩ (.int .i64 (zB l x:Int))).heap[w.heap.size]?=some (.cells ((E.set i (gP l (c+1) (i+1):Int)).map (Value.int .i64)).toArray 3 (0,0))):=Hd (by
      rw [HBB.out,HXS.out,heap_setCell_same _ _ _ _ _ _ HH2.out,List.setIfInBounds_toArray,← List.map_set,List.set_set])
     have HN2:Hid (Below w.heap.size w (wr.setCell ⟨B,i,none⟩ (.int .i64 (zB l x:Int)))):=Hd (by
      rw [HBB.out];exact HB2.out.setCell (p:=⟨B,i,none⟩) (nR _) _)
     have hx0:(0:Int)≤(x:Int):=by omega
     have hxl:(x:Int)<l.length:=by omega
     have hci:(c:Int)<q:=by omega
     have hwc:IntKind.i64.wrap ((c:Int)+1)=(c:Int)+1:=wI (by omega);generalize zB l x=y at *;clear HXS;go_wp2_with fail;refine ⟨⟨c+1,by go_num,by omega,HN1.out,HN2.out⟩,by simp [intOf];omega⟩
    ·obtain rfl:c=q:=by omega
     have hci:¬ (c:Int)<(c:Int):=by omega
     have HN:Hid (e2Rel l w (.int .i64 ((i:Int)-1)) wr):=Hd ⟨i,E.set i (zB l i:Int),rfl,by omega,by rw [List.length_set];exact HEL.out,fun j h1 h2=>by
      rw [gD,List.getElem?_set];by_cases e:i=j
      ·subst e;(rw [iP rfl,iP (by rw [HEL.out];exact hil)];try rfl)
      ·rw [iN e,← gD];exact HEQ.out j (by omega) h2,by rw [HBB.out,← HKE.out];exact HH2.out,by rw [HBB.out];exact HB2.out⟩
     go_wp2_with fail;refine ⟨HN.out,by simp [intOf];try omega⟩
  ·obtain rfl:k=0:=by omega
   rw [show (((0:Nat):Int)-1)=-1 by rfl];have hEE:E=endsL l:=by
    apply List.ext_getElem (by rw [HEL.out,yC]);intro j h1 h2;have h3:=HEQ.out j (by omega) (by have:=HEL.out;omega);have h4:=zBh (l:=l) (j:=j) (by have:=HEL.out;omega);rw [gD,gE h1] at h3;rw [gE h2] at h4;simp only [Option.getD_some] at h3;rw [h3];exact (Option.some.inj h4).symm
   subst hEE;have HX:=Hd (HQ.out (.slice (some ⟨B,0,none⟩) l.length l.length) wr HB.out (zFw HH.out (nR _) (yC l) hl));go_wp2_with fail;exact HX.out
theorem zTv (l:List Prt) (hl:l.length≤1000000000) (us:List Nat) (hus:zD l=some us) (v:Value) (w:World) (hr:zF w v l) :
  Calls Tryz.prog 33 #[v] w (ends2Post l w):=by
 have HQ:Hid (∀ v' w',Below w.heap.size w w'→w'.ownsRow w.heap.size 3 1 v' l.length ((endsL l).map (Value.int .i64))→ends2Post l w (.returned v') w'):=Hd fun v' w' h1 h2=>by
  unfold ends2Post;exact ⟨v',rfl,h1,h2⟩
 generalize ends2Post l w=Q at *;have HR:=Hd hr;have HU:=Hd hus;obtain ⟨va,vcap,rfl,hvc⟩:=hr.slice;clear hr hus;have hmk:=fX l.length hl;have hwl:IntKind.i64.wrap ((l.length:Int)-1)=(l.length:Int)-1:=wI (by omega);go_enter Tryz.func33,Tryz.ntmps33;go_wp2_with fail;have HK0:Hid ((w.alloc (.cells (Array.replicate l.length (Value.int .i64 0)) 3)).heap[w.heap.size]?=some (.cells ((List.replicate l.length (0:Int)).map (Value.int .i64)).toArray 3 (0,0))):=Hd (by
  have:=heap_alloc_new w (.cells (Array.replicate l.length (Value.int .i64 0)) 3);rw [this,List.map_replicate,List.toArray_replicate])
 have HB0:Hid (Below w.heap.size w (w.alloc (.cells (Array.replicate l.length (Value.int .i64 0)) 3))):=Hd ((bR _ _).alloc (nR _) _);generalize w.alloc (.cells (Array.replicate l.length (Value.int .i64 0)) 3)=W0 at *;generalize hBB:w.heap.size=B at *;have HBB:=Hd hBB;clear hBB;go_loopw [4] (fun j wr=>e2Rel l w j wr) (fun j _=>(intOf j+1).toNat)
 case atStart =>
  refine ⟨l.length,List.replicate l.length 0,rfl,nR _,by simp,fun i h1 h2=>by omega,?_,?_⟩
  ·rw [HBB.out];exact HK0.out
  ·rw [HBB.out];exact HB0.out
 case round =>
  obtain ⟨k,E,rfl,hk,hEl,hEq,hh,hb⟩:=hrel;rw [HBB.out] at hh hb;have HB:=Hd hb;have HH:=Hd hh;have HEQ:=Hd hEq;have HEL:=Hd hEl;have hBlt:B<wr.heap.size:=lt_of_block hh;clear hb hh hEq hEl;by_cases hk0:0<k
  ·obtain ⟨i,rfl⟩:∃ i,k=i+1:=⟨k-1,by omega⟩;rw [show (((i+1:Nat):Int)-1)=(i:Int) by omega];have hil:i<l.length:=hk;obtain ⟨b,off,rfl,_,_,hbl,hcell⟩:=HR.out.at (HBB.out ▸ HB.out) (show 0<l.length by omega);obtain ⟨q,hq1,hq2,hq4,hq3⟩:=zTj HU.out hil;have c0:wr.cell? ⟨b,off+i*3+1,none⟩=some (.int .i64 (q:Int)):=by rw [(hcell i hil).2.1,hq1]
   have HKI:=Hd hq3;have HKE:=Hd hq2;have hi0:(0:Int)≤i:=by omega
   have hil':(i:Int)<l.length:=by omega
   have hic:(i:Int)<vcap:=by omega
   have hwi:IntKind.i64.wrap ((i:Int)+1)=(i:Int)+1:=wI (by omega);have hwm:IntKind.i64.wrap ((i:Int)-1)=(i:Int)-1:=wI (by omega);have c1:wr.cell? ⟨B,i,none⟩=some (.int .i64 (E.getD i 0)):=by
    simp [World.cell?,HH.out,HEL.out,hil,gD]
   have z1:wr.frozen? ⟨B,i,none⟩=false:=by simp [World.frozen?,HH.out]
   have hbB:b≠B:=by have:=HBB.out;omega
   have c0':(wr.setCell ⟨B,i,none⟩ (.int .i64 ((i:Int)+1))).cell? ⟨b,off+i*3+1,none⟩=some (.int .i64 (q:Int)):=by
    rw [kR (by exact hbB)];exact c0
   have HAT:Hid (e2In l w E i q (.int .i64 0) (wr.setCell ⟨B,i,none⟩ (.int .i64 ((i:Int)+1)))):=Hd ⟨0,rfl,Nat.zero_le _,by
    rw [HBB.out,heap_setCell_same _ _ _ _ _ _ HH.out,List.setIfInBounds_toArray,← List.map_set];rfl,by
    rw [HBB.out];exact HB.out.setCell (p:=⟨B,i,none⟩) (nR _) _⟩
   clear hcell hq1 hq2 hq3 hk0 c0 hbB;go_wp2_with fail;clear c1 z1 c0';go_loopw [25] (fun cv wx=>e2In l w E i q cv wx) (fun cv _=>q-(intOf cv).toNat)
   case atStart=>exact HAT.out
   case round =>
    obtain ⟨c,rfl,hcq,hh2,hb2⟩:=hrel;rw [HBB.out] at hh2 hb2;have HH2:=Hd hh2;have HB2:=Hd hb2;clear hh2 hb2 HAT;by_cases hlt:c<q
    ·obtain ⟨x1,x2⟩:=HKI.out c hlt;have HXS:=Hd (zBw l c (i+1));generalize gP l c (i+1)=x at *;have d1:wr.cell? ⟨B,i,none⟩=some (.int .i64 (x:Int)):=by
      simp [World.cell?,HH2.out,HEL.out,hil]
     have d2:wr.cell? ⟨B,x,none⟩=some (.int .i64 (zB l x:Int)):=by
      have:=HEQ.out x (by omega) x2;rw [gD] at this;simp only [World.cell?,HH2.out];rw [← this];simp [HEL.out,x2,show ¬ i=x by omega]
     have d3:wr.frozen? ⟨B,i,none⟩=false:=by simp [World.frozen?,HH2.out]
     have HN1:Hid ((wr.setCell ⟨B,i,none⟩ (.int .i64 (zB l x:Int))).heap[w.heap.size]?=some (.cells ((E.set i (gP l (c+1) (i+1):Int)).map (Value.int .i64)).toArray 3 (0,0))):=Hd (by
      rw [HBB.out,HXS.out,heap_setCell_same _ _ _ _ _ _ HH2.out,List.setIfInBounds_toArray,← List.map_set,List.set_set])
     have HN2:Hid (Below w.heap.size w (wr.setCell ⟨B,i,none⟩ (.int .i64 (zB l x:Int)))):=Hd (by
      rw [HBB.out];exact HB2.out.setCell (p:=⟨B,i,none⟩) (nR _) _)
     have hx0:(0:Int)≤(x:Int):=by omega
     have hxl:(x:Int)<l.length:=by omega
     have hci:(c:Int)<q:=by omega
     have hwc:IntKind.i64.wrap ((c:Int)+1)=(c:Int)+1:=wI (by omega);generalize zB l x=y at *;clear HXS;go_wp2_with fail;refine ⟨⟨c+1,by go_num,by omega,HN1.out,HN2.out⟩,by simp [intOf];omega⟩
    ·obtain rfl:c=q:=by omega
     have hci:¬ (c:Int)<(c:Int):=by omega
     have HN:Hid (e2Rel l w (.int .i64 ((i:Int)-1)) wr):=Hd ⟨i,E.set i (zB l i:Int),rfl,by omega,by rw [List.length_set];exact HEL.out,fun j h1 h2=>by
      rw [gD,List.getElem?_set];by_cases e:i=j
      ·subst e;(rw [iP rfl,iP (by rw [HEL.out];exact hil)];try rfl)
      ·rw [iN e,← gD];exact HEQ.out j (by omega) h2,by rw [HBB.out,← HKE.out];exact HH2.out,by rw [HBB.out];exact HB2.out⟩
     go_wp2_with fail;refine ⟨HN.out,by simp [intOf];try omega⟩
  ·obtain rfl:k=0:=by omega
   rw [show (((0:Nat):Int)-1)=-1 by rfl];have hEE:E=endsL l:=by
    apply List.ext_getElem (by rw [HEL.out,yC]);intro j h1 h2;have h3:=HEQ.out j (by omega) (by have:=HEL.out;omega);have h4:=zBh (l:=l) (j:=j) (by have:=HEL.out;omega);rw [gD,gE h1] at h3;rw [gE h2] at h4;simp only [Option.getD_some] at h3;rw [h3];exact (Option.some.inj h4).symm
   subst hEE;have HX:=Hd (HQ.out (.slice (some ⟨B,0,none⟩) l.length l.length) wr HB.out (zFw HH.out (nR _) (yC l) hl));go_wp2_with fail;exact HX.out
attribute [local irreducible] Calls
theorem zKc (p:Prt) (s:ByteArray) (k:Nat) (w:World) :
  Calls Tryz.prog 36 #[.agg #[.int .u8 (p.1:Int),.int .i64 p.2.1,.string p.2.2],.agg #[.string s,.int .u8 (k:Int)]] w fun e w'=>e=.returned (.bool (p.1 == 26&&decide (p.2.2=s)))∧Below w.heap.size w w':=by
 have HX:=Hd (((bR w.heap.size w).alloc (nR _) (.cells #[.int .u8 (p.1:Int),.int .i64 p.2.1,.string p.2.2] 53)).alloc (by simp) (.cells #[.string s,.int .u8 (k:Int)] 50));have HQ:Hid (∀ x w',(p.1 == 26&&decide (p.2.2=s))=x→Below w.heap.size w w'→(fun (e:Ending) w'=>e=.returned (.bool (p.1 == 26&&decide (p.2.2=s)))∧Below w.heap.size w w') (.returned (.bool x)) w'):=Hd fun x w' h hb=>⟨by rw [h],hb⟩
 generalize (fun (e:Ending) w'=>e=.returned (.bool (p.1 == 26&&decide (p.2.2=s)))∧Below w.heap.size w w')=Q at *;obtain ⟨pk,pn,pw⟩:=p;simp only [] at HX HQ ⊢;by_cases h1:pk=26
 ·subst h1;by_cases h2:pw=s
  ·subst h2;have HZ:=Hd (HQ.out true _ (by simp) HX.out);go_enter Tryz.func36,Tryz.ntmps36;go_wp2_with fail;exact HZ.out
  ·have g2:(pw.toList == s.toList)=false:=by rw [bE];exact zAr h2
   have HZ:=Hd (HQ.out false _ (by simp [h2]) HX.out);go_enter Tryz.func36,Tryz.ntmps36;go_wp2_with fail;exact HZ.out
 ·have g1:((pk:Int) == 26)=false:=by rw [bE];omega
  have HZ:=Hd (HQ.out false _ (by simp [h1]) HX.out);clear h1;go_enter Tryz.func36,Tryz.ntmps36;go_wp2_with fail;exact HZ.out
theorem zZo {hole k:Nat} (h1:1≤hole) (h5:hole≤5):mayB hole k=(match hole with
  | 1=>decide (26≤k)&&(decide (k≤48)&&k != 38)
  | 2=>k == 26
  | 3=>k == 27
  | 4=>k == 26 || ((decide (28≤k)&&decide (k≤30)) || (k == 35 || (decide (41≤k)&&decide (k≤48))))
  | _=>decide (49≤k)&&(decide (k≤68)&&(k != 62&&k != 64))):=by
 have hh:hole=1∨hole=2∨hole=3∨hole=4∨hole=5:=by omega
 rcases hh with rfl | rfl | rfl | rfl | rfl <;> rfl
theorem zVs (hole k:Nat) (h1:1≤hole) (h5:hole≤5) (hk:k<256) (w:World) :
  Calls Tryz.prog 15 #[.int .u8 (hole:Int),.int .u8 (k:Int)] w fun e w'=>e=.returned (.bool (mayB hole k))∧w=w':=by
 have HQ:Hid (∀ x,mayB hole k=x→(fun (e:Ending) w'=>e=.returned (.bool (mayB hole k))∧w=w') (.returned (.bool x)) w):=Hd fun x h=>⟨by rw [h],rfl⟩
 generalize (fun (e:Ending) w'=>e=.returned (.bool (mayB hole k))∧w=w')=Q at *;have hh:hole=1∨hole=2∨hole=3∨hole=4∨hole=5:=by omega
 have HV:=Hd (zZo (k:=k) h1 h5);rcases hh with rfl | rfl | rfl | rfl | rfl;all_goals
  go_enter Tryz.func15,Tryz.ntmps15;go_wp2_with fail;all_goals
   refine HQ.out _ ?_;rw [HV.out,Bool.eq_iff_iff];first
    | (simp;done)
    | (simp;omega)
attribute [local irreducible] wpStill
def holeI (o:Option Nat):Int:=match o with
 | some h=>(h:Int)
 | none=>-1
def hoRel (f:List Prt) (hs:List Hl) (p:Nat) (w:World) (hv:Value) (wr:World):Prop:=∃ k:Nat,hv=.int .i64 (k:Int)∧k≤hs.length∧(∀ j (hj:j<hs.length),j<k→zW f p hs[j]=false)∧Below w.heap.size w wr
theorem zVn {f:List Prt} {hs:List Hl} {p k:Nat} (hk:k<hs.length) (hn:∀ j (hj:j<hs.length),j<k→zW f p hs[j]=false) (h:zW f p hs[k]=true):holeI (zL f hs p)=(k:Int):=by
 unfold zL;rw [List.findIdx?_eq_some_iff_getElem.2 ⟨hk,h,fun j hj=>by rw [hn j (by omega) hj];decide⟩];rfl
theorem zVo {f:List Prt} {hs:List Hl} {p:Nat} (hn:∀ j (hj:j<hs.length),j<hs.length→zW f p hs[j]=false):holeI (zL f hs p)=-1:=by
 unfold zL;rw [List.findIdx?_eq_none_iff.2 (fun x hx=>by obtain ⟨j,hj,rfl⟩:=List.mem_iff_getElem.1 hx;exact hn j hj hj)];rfl
theorem zOq (f:List Prt) (hs:List Hl) (hf:f.length≤1048576) (hh:hs.length≤1048576) (p:Nat) (hp:p<f.length) (vf vh:Value) (w:World) (hrf:zF w vf f) (hrh:HoleRow w vh hs) :
  Calls Tryz.prog 25 #[vf,vh,.int .i64 (p:Int)] w fun e w'=>e=.returned (.int .i64 (holeI (zL f hs p)))∧Below w.heap.size w w':=by
 have HQ:Hid (∀ x w',holeI (zL f hs p)=x→Below w.heap.size w w'→(fun (e:Ending) w'=>e=.returned (.int .i64 (holeI (zL f hs p)))∧Below w.heap.size w w') (.returned (.int .i64 x)) w'):=Hd fun x w' h hb=>⟨by rw [h],hb⟩
 generalize (fun (e:Ending) w'=>e=.returned (.int .i64 (holeI (zL f hs p)))∧Below w.heap.size w w')=Q at *;obtain ⟨af,cf,rfl,hcf⟩:=hrf.slice;obtain ⟨ah,ch,rfl,hch⟩:=Row.shape hrh;have HF:=Hd hrf;have HH:=Hd hrh;clear hrf hrh;go_enter Tryz.func25,Tryz.ntmps25;go_wp2_with fail;go_loopw [7] (fun hv wr=>hoRel f hs p w hv wr) (fun hv _=>hs.length-(intOf hv).toNat)
 case atStart=>exact ⟨0,rfl,Nat.zero_le _,fun j hj h=>absurd h (by omega),bR _ _⟩
 case round =>
  obtain ⟨k,rfl,hk,hno,hb⟩:=hrel;have HB:=Hd hb;have HNO:=Hd hno;clear hb hno;by_cases hlt:k<hs.length
  ·obtain ⟨b,off,rfl,_,_,_,hcm⟩:=HH.out.at HB.out (show 0<hs.length by omega);obtain ⟨c0,c1⟩:=hcm k hlt;have hk0:(0:Int)≤(k:Int):=by omega
   have hkl:(k:Int)<hs.length:=by omega
   have hkc:(k:Int)<ch:=by omega
   have HX:Hid (zW f p hs[k]=false→∀ W,Below w.heap.size w W→hoRel f hs p w (.int .i64 ((k:Int)+1)) W):=Hd fun h W hb=>⟨k+1,by push_cast;rfl,hlt,fun j hj hjk=>by
    by_cases e:j=k
    ·subst e;exact h
    ·exact HNO.out j hj (by omega),hb⟩
   have HY:Hid (zW f p hs[k]=true→holeI (zL f hs p)=(k:Int)):=Hd fun h=>zVn hlt HNO.out h;clear hcm;generalize hs[k]=x at *;obtain ⟨xs,xk⟩:=x;simp only [] at c0 c1;obtain ⟨fb,fo,rfl,_,_,_,hcm⟩:=HF.out.at HB.out (show 0<f.length by omega);obtain ⟨d0,d1,d2⟩:=hcm p hp;have hp0:(0:Int)≤(p:Int):=by omega
   have hpl:(p:Int)<f.length:=by omega
   have hpc:(p:Int)<cf:=by omega
   by_cases hst:xO xk=true
   ·have hx:xk=5∨xk=7:=by unfold xO at hst;simp at hst;exact hst
    by_cases h50:(f[p]).1=50
    case neg =>
     have hsa:zW f p (xs,xk)=false:=by
      unfold zW;rw [iP hst,gE hp];cases f[p+1]? with
      | none=>rfl
      | some y=>simp [h50]
     have HZ:=Hd (HX.out hsa wr.drew.drew HB.out.drew.drew);have g50:(((f[p]).1:Int) == 50)=false:=by rw [bE];omega
     clear hsa HX HY hcm h50 hst;rcases hx with rfl | rfl;all_goals
      go_upto_region 5 with (fail);go_still_tail 26,(by kernel_rfl);go_wp2_with fail;go_still_tail 11,(by kernel_rfl);go_wp2_with fail;exact ⟨HZ.out,by simp only [intOf];omega⟩
    by_cases hnx:p+1<f.length
    case neg =>
     have hsa:zW f p (xs,xk)=false:=by
      unfold zW;rw [iP hst,gE hp,List.getElem?_eq_none (by omega)]
     have HZ:=Hd (HX.out hsa wr.drew.drew HB.out.drew.drew);have g50:(((f[p]).1:Int) == 50)=true:=by rw [beq_iff_eq];omega
     have hw1:IntKind.i64.wrap ((p:Int)+1)=(p:Int)+1:=wI (by omega);have g51:¬ (p:Int)+1<f.length:=by omega
     clear hsa HX HY hcm h50 hst;rcases hx with rfl | rfl;all_goals
      go_upto_region 5 with (fail);go_still_tail 26,(by kernel_rfl);go_wp2_with fail;go_still_tail 11,(by kernel_rfl);go_wp2_with fail;exact ⟨HZ.out,by simp only [intOf];omega⟩
    obtain ⟨n0,n1,n2⟩:=hcm (p+1) hnx;have hsa:zW f p (xs,xk)=((f[p+1]).1 == 26&&decide ((f[p+1]).2.2=xs)):=by
     unfold zW;rw [iP hst,gE hp,gE hnx];simp [h50]
    rw [hsa] at HX HY;have g50:(((f[p]).1:Int) == 50)=true:=by rw [beq_iff_eq];omega
    have hw1:IntKind.i64.wrap ((p:Int)+1)=(p:Int)+1:=wI (by omega);have g51:(p:Int)+1<f.length:=by omega
    have hq0:(0:Int)≤(p:Int)+1:=by omega
    have hqc:(p:Int)+1<cf:=by omega
    have CP:=Hd (fun W=>zKc f[p+1] xs xk W);clear hsa hcm h50 hst;generalize f[p+1]=q at *;obtain ⟨q1,q2,q3⟩:=q;simp only [] at n0 n1 n2 CP HX HY;rcases hx with rfl | rfl;all_goals
     go_upto_region 5 with (fail);go_still_tail 26,(by kernel_rfl);go_wp2_with fail;refine (CP.out _).mono ?_;rintro e w3 ⟨rfl,hb3⟩;have HB3:=Hd (zC HB.out.drew hb3);clear hb3 CP c0 c1 d0 d1 d2 n0 n1 n2;cases hz:(q1 == 26&&decide (q3=xs)) with
     | true =>
      have HZ:=Hd (HQ.out (k:Int) w3 (HY.out hz) HB3.out);clear hz HX HY;go_wp2_with fail;exact HZ.out
     | false =>
      have HZ:=Hd (HX.out hz w3.drew HB3.out.drew);clear hz HX HY;go_upto_region 7 with (fail);go_still_tail 11,(by kernel_rfl);go_wp2_with fail;exact ⟨HZ.out,by simp only [intOf];omega⟩
   have hsa:zW f p (xs,xk)=((f[p]).1 == 26&&decide ((f[p]).2.2=xs)):=by
    unfold zW;rw [iN hst,gE hp]
   rw [hsa] at HX HY;have g5:((xk:Int) == 5)=false:=by rw [bE];intro e;apply hst;unfold xO;simp;omega
   have g7:((xk:Int) == 7)=false:=by rw [bE];intro e;apply hst;unfold xO;simp;omega
   have CP:=Hd (fun W=>zKc f[p] xs xk W);clear hst hsa hcm;generalize f[p]=q at *;obtain ⟨q1,q2,q3⟩:=q;simp only [] at d0 d1 d2 CP HX HY;go_upto_region 5 with (fail);go_still_tail 26,(by kernel_rfl);go_wp2_with fail;have c0':wr.drew.cell? ⟨b,off+k*2,none⟩=some (.string xs):=c0;have c1':wr.drew.cell? ⟨b,off+k*2+1,none⟩=some (.int .u8 (xk:Int)):=c1;have d0':wr.drew.cell? ⟨fb,fo+p*3,none⟩=some (.int .u8 (q1:Int)):=d0;have d1':wr.drew.cell? ⟨fb,fo+p*3+1,none⟩=some (.int .i64 q2):=d1;have d2':wr.drew.cell? ⟨fb,fo+p*3+2,none⟩=some (.string q3):=d2;have HBD:=Hd HB.out.drew;clear c0 c1 d0 d1 d2;generalize wr.drew=wd at *;have HBE:=Hd HBD.out.drew;go_still_tail 11,(by kernel_rfl);go_wp2_with fail;refine (CP.out _).mono ?_;rintro e w3 ⟨rfl,hb3⟩;have HB3:=Hd (zC HBE.out hb3);clear hb3 CP c0' c1' d0' d1' d2';cases hz:(q1 == 26&&decide (q3=xs)) with
   | true =>
    have HZ:=Hd (HQ.out (k:Int) w3 (HY.out hz) HB3.out);clear hz HX HY;go_wp2_with fail;exact HZ.out
   | false =>
    have HZ:=Hd (HX.out hz w3 HB3.out);clear hz HX HY;go_wp2_with fail;exact ⟨HZ.out,by simp only [intOf];omega⟩
  ·obtain rfl:k=hs.length:=by omega
   have HX:=Hd (HQ.out (-1) wr (zVo HNO.out) HB.out);go_wp2_with fail;exact HX.out
end Go.Proofs.YtbjkdmbcpkopjaaGreatDoor
