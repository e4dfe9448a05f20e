/- Two rows: their pieces, a store into the first one, and rows begun anew. -/
import Derived.Test.YtfalelkfhandfaaGreatDoorKpMMs
import Derived.Test.YtfalelkfhandfaaGreatDoorMakNMs
import Derived.Test.YtfalelkfhandfaaGreatDoorMakHMs
import Derived.Test.YtfalelkfhandfaaGreatDoorMakMMs
import Derived.Test.YtfalelkfhandfaaGreatDoorMakeMs
import Derived.Test.YtfalelkfhandfaaGreatDoorStepAMs
import Derived.Test.YtfalelkfhandfaaGreatDoorMakTMs
import Derived.Test.YtfalelkfhandfaaGreatDoorRightWMs
import Derived.Test.YtfalelkfhandfaaGreatDoorRefHoleMs
namespace Go.Proofs.YtfalelkfhandfaaGreatDoor
set_option linter.all false
open Go.RowKit

theorem zPl (L:List Prt) (k:Nat):(zV L).take (k*3)=zV (L.take k):=by
 by_cases h:k≤L.length
 ·have:=yK (L.take k) (L.drop k)
  rw [List.take_append_drop] at this
  rw [this,List.take_left' (by rw [yF,List.length_take,Nat.min_eq_left h])]
 ·rw [List.take_of_length_le (by rw [yF];omega),List.take_of_length_le (by omega)]
section
variable {B:Nat} {w0 W:World} {A:List Prt} {F:List Int} {ov nv:Value}
theorem TwoR.base {B':Nat} {v0:World} (h:TwoR B w0 A F ov nv W) (hB:B'≤B) (hb:Below B' v0 W):TwoR B' v0 A F ov nv W:=⟨jM h.o hB,jM h.n hB,hb,Nat.le_trans hB h.B⟩
theorem TwoR.freshO (W:World):TwoR W.heap.size W [] [] (.slice (some ⟨W.heap.size,0,none⟩) 0 0) (.slice none 0 0) (W.alloc (.cells #[] 38)) :=
 ⟨zCp W W.heap.size 38 3 (Nat.le_refl _),World.ownsRow_nil _ _ _ _,(Below.refl _ _).alloc (Nat.le_refl _) _,by simp⟩
theorem TwoR.freshN (h:TwoR B w0 A F ov nv W):TwoR B w0 A [] ov (.slice (some ⟨W.heap.size,0,none⟩) 0 0) (W.alloc (.cells #[] 3)) :=
 ⟨h.o.alloc _,zCp W B 3 1 h.B,h.b.alloc h.B _,by have:=h.B;simp;omega⟩
theorem TwoR.takeO {a:Option Addr} {c:Nat} (h:TwoR B w0 A F (.slice a A.length c) nv W) {k:Nat} (hk:k≤A.length):zD W (.slice a k c) (A.take k):=by
 have:=Row.of_owns (kP h.o hk)
 rw [zPl] at this
 unfold zD
 rw [List.length_take,Nat.min_eq_left hk];exact this
theorem TwoR.takeN {a:Option Addr} {c:Nat} (h:TwoR B w0 A F ov (.slice a F.length c) W) {k:Nat} (hk:k≤F.length):zI W (.slice a k c) .i64 (F.take k):=by
 have:=Row.of_owns (kP h.n hk)
 rw [Nat.mul_one] at this
 unfold intsV at this
 rw [← List.map_take] at this
 unfold zI
 rw [List.length_take,Nat.min_eq_left hk];exact this
theorem zPm {sz:Nat} {g n cap k:Nat} {xs:List Value} (h:Row W (.slice (some ⟨g,0,none⟩) n cap) n sz xs) (hk:k≤n) (hg:g<W.heap.size):Row W (.slice (some ⟨g,k*sz,none⟩) (n-k) (cap-k)) (n-k) sz (xs.drop (k*sz)):=by
 obtain ⟨h1,a,c,hv,hc,h2,h3⟩:=h
 simp only [Value.slice.injEq,true_and] at hv
 obtain ⟨rfl,rfl⟩:=hv
 have hks:k*sz≤n*sz:=Nat.mul_le_mul_right _ hk
 refine ⟨by rw [List.length_drop,Nat.sub_mul];omega,some ⟨g,k*sz,none⟩,cap-k,rfl,by omega,(fun e=>nomatch e),fun hp=>⟨g,k*sz,rfl,hg,fun i hi=>?_⟩⟩
 obtain ⟨b,o,e1,_,e3⟩:=h3 (by omega)
 simp only [Option.some.injEq,Addr.mk.injEq,and_true] at e1
 obtain ⟨rfl,rfl⟩:=e1
 rw [Nat.sub_mul] at hi
 have:=e3 (k*sz+i) (by omega)
 rw [Nat.zero_add] at this
 rw [this,List.getElem?_drop]
theorem TwoR.dropO {a:Option Addr} {c:Nat} (h:TwoR B w0 A F (.slice a A.length c) nv W) {k:Nat} (hk:k≤A.length) :
  (c=k∧A.length=k∧A.drop k=[])∨(¬ c=k∧∃ g,a=some ⟨g,0,none⟩∧∀ W',Below W.heap.size W W'→zD W' (.slice (some ⟨g,k*3,none⟩) (A.length-k) (c-k)) (A.drop k)):=by
 obtain ⟨_,_,hv,hc⟩:=zD.slice h.oRow
 simp only [Value.slice.injEq] at hv
 obtain ⟨rfl,-,rfl⟩:=hv
 by_cases e:c=k
 ·exact Or.inl ⟨e,by omega,List.drop_of_length_le (by omega)⟩
 ·refine Or.inr ⟨e,?_⟩
  rcases h.o.2 with ⟨hv,_⟩ | ⟨g,cap,cur,hv,_,hh,_⟩
  ·simp only [Value.slice.injEq] at hv
   omega
  ·simp only [Value.slice.injEq] at hv
   obtain ⟨rfl,-,rfl⟩:=hv
   refine ⟨g,rfl,fun W' hb=>zD.below ?_ hb⟩
   have h2:=zPm (Row.of_owns h.o) hk (zP hh)
   unfold zD
   rw [List.length_drop]
   have e2:(zV A).drop (k*3)=zV (A.drop k):=by
    have:=yK (A.take k) (A.drop k)
    rw [List.take_append_drop] at this
    rw [this,List.drop_left' (by rw [yF,List.length_take,Nat.min_eq_left hk])]
   rw [← e2];exact h2
theorem TwoR.dropN {a:Option Addr} {c:Nat} (h:TwoR B w0 A F ov (.slice a F.length c) W) {k:Nat} (hk:k≤F.length) :
  (c=k∧F.length=k∧F.drop k=[])∨(¬ c=k∧∃ g,a=some ⟨g,0,none⟩∧∀ W',Below W.heap.size W W'→zI W' (.slice (some ⟨g,k,none⟩) (F.length-k) (c-k)) .i64 (F.drop k)):=by
 obtain ⟨_,_,hv,hc,_⟩:=zI.open' h.nRow
 simp only [Value.slice.injEq] at hv
 obtain ⟨rfl,-,rfl⟩:=hv
 by_cases e:c=k
 ·exact Or.inl ⟨e,by omega,List.drop_of_length_le (by omega)⟩
 ·refine Or.inr ⟨e,?_⟩
  rcases h.n.2 with ⟨hv,_⟩ | ⟨g,cap,cur,hv,_,hh,_⟩
  ·simp only [Value.slice.injEq] at hv
   omega
  ·simp only [Value.slice.injEq] at hv
   obtain ⟨rfl,-,rfl⟩:=hv
   refine ⟨g,rfl,fun W' hb=>zI.below ?_ hb⟩
   have h2:=zPm (Row.of_owns h.n) hk (zP hh)
   rw [Nat.mul_one] at h2
   unfold zI
   rw [List.length_drop,List.map_drop]
   exact h2
theorem zDt (W:World) (a:Option Addr) (sz:Nat):Row W (.slice a 0 0) 0 sz []:=⟨by simp,a,0,rfl,Nat.le_refl _,fun _=>rfl,fun h=>absurd h (by decide)⟩
theorem TwoR.kids {Z:List PN} {g c:Nat} (h:TwoR B w0 (Z.map (·.1)) F (.slice (some ⟨g,0,none⟩) Z.length c) nv W) {u:Nat} (hu:u<Z.length) (d:Int) :
  W.cell? ⟨g,u*3+1,none⟩=some (.int .i64 (Z[u]).1.2.1)∧W.frozen? ⟨g,u*3+1,none⟩=false∧TwoR B w0 ((addKN Z u d).map (·.1)) F (.slice (some ⟨g,0,none⟩) (addKN Z u d).length c) nv (W.setCell ⟨g,u*3+1,none⟩ (.int .i64 ((Z[u]).1.2.1+d))):=by
 obtain ⟨⟨⟨k,n,s⟩,z⟩,hp⟩:∃ p,Z[u]=p:=⟨_,rfl⟩
 have hs:Z=Z.take u++((k,n,s),z)::Z.drop (u+1):=by rw [← hp,← List.drop_eq_getElem_cons hu,List.take_append_drop]
 have hul:(Z.take u).length=u:=by rw [List.length_take];omega
 have ho:=h.o
 rw [List.length_map] at ho
 have hmp:Z.map (·.1)=(Z.take u).map (·.1)++(k,n,s)::(Z.drop (u+1)).map (·.1):=by
  conv=>lhs;rw [hs]
  rw [List.map_append,List.map_cons]
 have hul2:((Z.take u).map (·.1)).length=u:=by rw [List.length_map,hul]
 have hc:=ho.cellAt (u*3+1) (by omega)
 have h1:=zDc ((Z.take u).map (·.1)) ((Z.drop (u+1)).map (·.1)) k n s
 rw [hul2,← hmp] at h1
 have h2:=zFc ((Z.take u).map (·.1)) ((Z.drop (u+1)).map (·.1)) k n (n+d) s
 rw [hul2,← hmp] at h2
 have hk:addKN Z u d=Z.take u++((k,n+d,s),z)::Z.drop (u+1):=by
  conv=>lhs;rw [hs]
  have:=zMt (Z.take u) (Z.drop (u+1)) ((k,n,s),z) d
  rw [hul] at this
  exact this
 have hz:W.frozen? ⟨g,u*3+1,none⟩=false:=by
  rcases ho.2 with ⟨hv,_⟩ | ⟨g',c',cur,hv,_,hh,_⟩
  ·cases hv
  ·simp only [Value.slice.injEq,Option.some.injEq,Addr.mk.injEq,and_true] at hv
   obtain ⟨rfl,_⟩:=hv
   simp [World.frozen?,hh]
 have hs2:=zCv ho (u*3+1) (by rw [yF,List.length_map];omega) (.int .i64 (n+d))
 rw [h2] at hs2
 have hgB:=(ho.lt g rfl).1
 refine ⟨by rw [hc,h1,hp],hz,?_⟩
 rw [hp]
 refine ⟨?_,?_,h.b.setCell (p:=⟨g,_,none⟩) hgB _,by simpa using h.B⟩
 ·rw [List.length_map,fS,hk,List.map_append,List.map_cons]
  exact hs2
 ·exact ownsRow_setCell_other h.n (a:=⟨g,u*3+1,none⟩) (zFv ho h.n (by decide) rfl) _
end
end Go.Proofs.YtfalelkfhandfaaGreatDoor
namespace Go.Proofs.YtfalelkfhandfaaGreatDoor
set_option linter.all false

theorem yAy {rs:List RuleX} {l:List Prt} {P:List PkX} (hok:AllOK rs l P):∀ p∈yA (rs.map (·.1)) l (P.map (·.1)),(-1≤p.2.2∧p.2.2≤131072)∧p.2.1.length≤131072:=by
 intro p hp
 unfold yA at hp
 rw [List.map_map] at hp
 obtain ⟨q,hq,rfl⟩:=List.mem_map.1 hp
 obtain ⟨k,x,h⟩:=hok q hq
 have e:=h.mk'
 show (-1≤(mkOf (rs.map (·.1)) l q.1).2.2∧_)∧_
 rw [Function.comp_apply,e]
 have hb:=zCj h.hz h.ht (vT h.ht)
 have hn:=h.hn
 exact ⟨⟨by show -1≤xX _ _ _-1;omega,by show xX _ _ _-1≤131072;omega⟩,hn⟩
theorem zJe {l:List Prt} {us:List Nat} (hl:zG l=some us):∀ {P:List Mk} {a:Nat} (_:Free l a P) (_:∀ p∈P,p.2.1.length≤131072),laterS l P≤(P.length:Int)*131072
 | [],_,_,_=>by rw [laterS];simp
 | (x,m,d)::R,a,hf,hb=>by
  have h1:=zJe hl hf.2.2 (fun p hp=>hb p (by simp [hp]))
  have h2:=hb (x,m,d) (by simp)
  simp only [] at h2
  have h3:=zN hl hf.2.1
  rw [laterS,List.length_cons]
  push_cast
  omega
theorem zVc {l:List Prt} (hw:zZ l=true) {M:List Mk} (hf:Free l 0 M):∀ x m d,(x,m,d)∈M→0<x→0≤upN l x:=fun x m d hx h0=>zCu hw (by
 obtain ⟨i,hi,he⟩:=List.mem_iff_getElem.1 hx
 have:=(zBt hf hi).1
 rw [he] at this
 exact this) x h0
theorem yAz {rs:List RuleX} {l:List Prt} {P:List PkX} {k:Nat} (hk:k<P.length) {rk x:Nat} (hq:PkOK rs l P[k] rk x):(yA (rs.map (·.1)) l (P.map (·.1))).drop k=(x,outP (rs[rk]'hq.hk).1 l (P[k]).1.2.2,xX (rs[rk]'hq.hk).1 l (P[k]).1.2.2-1)::(yA (rs.map (·.1)) l (P.map (·.1))).drop (k+1):=by
 have hl:(yA (rs.map (·.1)) l (P.map (·.1))).length=P.length:=by unfold yA;simp
 rw [List.drop_eq_getElem_cons (by omega)]
 congr 1
 unfold yA
 rw [List.getElem_map,List.getElem_map]
 exact hq.mk'
theorem zVd {rs:List RuleX} {l:List Prt} (hll:l.length≤1048576) (hw:zZ l=true) {P:List PkX} (hpn:P.length≤1048576) (hok:AllOK rs l P) (hf:Free l 0 (yA (rs.map (·.1)) l (P.map (·.1)))) {k:Nat} (hk:k<P.length) {rk x:Nat} (hq:PkOK rs l P[k] rk x) :
  backZ l ((yA (rs.map (·.1)) l (P.map (·.1))).drop k)=(if 0<x then addKN (backZ l ((yA (rs.map (·.1)) l (P.map (·.1))).drop (k+1))) (upN l x).toNat (xX (rs[rk]'hq.hk).1 l (P[k]).1.2.2-1) else backZ l ((yA (rs.map (·.1)) l (P.map (·.1))).drop (k+1))).take x++(outP (rs[rk]'hq.hk).1 l (P[k]).1.2.2++(if 0<x then addKN (backZ l ((yA (rs.map (·.1)) l (P.map (·.1))).drop (k+1))) (upN l x).toNat (xX (rs[rk]'hq.hk).1 l (P[k]).1.2.2-1) else backZ l ((yA (rs.map (·.1)) l (P.map (·.1))).drop (k+1))).drop (zC l x)) ∧
  ((backZ l ((yA (rs.map (·.1)) l (P.map (·.1))).drop (k+1))).length:Int)-laterZ l (yA (rs.map (·.1)) l ((P.drop (k+1)).map (·.1))) (zC l x)=(zC l x:Int) ∧
  zC l x≤(backZ l ((yA (rs.map (·.1)) l (P.map (·.1))).drop (k+1))).length∧(backZ l ((yA (rs.map (·.1)) l (P.map (·.1))).drop (k+1))).length≤200000000000 ∧
  (0<x→∃ u:Nat,upN l x=(u:Int)∧u<x∧∃ hu:u<(backZ l ((yA (rs.map (·.1)) l (P.map (·.1))).drop (k+1))).length,-1000000000000≤((backZ l ((yA (rs.map (·.1)) l (P.map (·.1))).drop (k+1)))[u]).1.2.1∧((backZ l ((yA (rs.map (·.1)) l (P.map (·.1))).drop (k+1)))[u]).1.2.1≤1000000000000):=by
 have hat:=yAz hk hq
 have hml:(yA (rs.map (·.1)) l (P.map (·.1))).length=P.length:=by unfold yA;simp
 have hd:yA (rs.map (·.1)) l ((P.drop (k+1)).map (·.1))=(yA (rs.map (·.1)) l (P.map (·.1))).drop (k+1):=by unfold yA;rw [List.map_drop,List.map_drop]
 have hbd:=yAy hok
 have hup:=zVc hw hf
 have hfd:=(zBt hf (k:=k) (by omega)).2
 have hx0:((yA (rs.map (·.1)) l (P.map (·.1)))[k]'(by omega)).1=x:=by
  have h1:=List.drop_eq_getElem_cons (l:=yA (rs.map (·.1)) l (P.map (·.1))) (i:=k) (by omega)
  rw [hat] at h1
  rw [← (List.cons.inj h1).1]
 rw [hx0] at hfd
 clear hx0
 rw [hat,hd]
 generalize hMM:yA (rs.map (·.1)) l (P.map (·.1))=M at *
 have hl:=zK hw
 have hg:=zN hl hq.hl
 have hup2:∀ y m d,(y,m,d)∈M.drop (k+1)→0<y→0≤upN l y:=fun y m d h=>hup y m d (List.mem_of_mem_drop h)
 have hbd2:∀ p∈M.drop (k+1),(-1≤p.2.2∧p.2.2≤131072)∧p.2.1.length≤131072:=fun p h=>hbd p (List.mem_of_mem_drop h)
 obtain ⟨⟨R,hR⟩,h2,h3⟩:=zMs hl hg.2 hfd hup2
 have h4:=zJe hl hfd (fun p hp=>(hbd2 p hp).2)
 have h5:(M.drop (k+1)).length≤1048576:=by rw [List.length_drop];omega
 refine ⟨zSm hl _ _ hq.hl hfd hup2,by rw [jV];omega,by omega,by omega,fun hx=>?_⟩
 obtain ⟨u,hu⟩:∃ u:Nat,upN l x=(u:Int):=⟨(upN l x).toNat,by have:=zCu hw hq.hl x hx;have h6:0≤upN l x:=this;omega⟩
 have hux:=zDz l x
 rw [hu] at hux
 have huz:u<(backZ l (M.drop (k+1))).length:=by omega
 refine ⟨u,hu,by omega,huz,?_⟩
 have hz:(backZ l (M.drop (k+1)))[u]=stayN l (M.drop (k+1)) u:=by
  have h7:(backZ l (M.drop (k+1)))[u]?=some (stayN l (M.drop (k+1)) u):=by
   rw [hR,List.getElem?_append_left (by rw [kW];omega)]
   unfold stays
   rw [List.getElem?_map,List.getElem?_range' (by omega)]
   simp
  rw [List.getElem?_eq_getElem huz] at h7
  exact Option.some.inj h7
 rw [hz]
 have h8:=zCi (l:=l) u (M.drop (k+1)) (fun p hp=>(hbd2 p hp).1)
 obtain ⟨q,h9,_⟩:=zEa hl (show u<l.length by have:=hq.hl;omega)
 have hq2:(q:Int)≤l.length:=by
  obtain ⟨ts,q2,f1,f2,f3,_⟩:=fH hl (show u<l.length by have:=hq.hl;omega)
  have f4:=(yM f1).2.1
  rw [List.length_drop] at f4
  have:(q:Int)=(q2:Int):=by rw [← h9,← f2]
  omega
 have h10:(zR l u).2.1=(q:Int):=by
  unfold zR
  rw [List.getD_eq_getElem?_getD,List.getElem?_eq_getElem (by have:=hq.hl;omega)]
  exact h9
 show -1000000000000≤(zR l u).2.1+yO l (M.drop (k+1)) u∧(zR l u).2.1+yO l (M.drop (k+1)) u≤1000000000000
 rw [h10]
 omega
end Go.Proofs.YtfalelkfhandfaaGreatDoor
namespace Go.Proofs.YtfalelkfhandfaaGreatDoor
set_option maxRecDepth 100000
set_option maxHeartbeats 32000000
set_option linter.all false
attribute [local irreducible] Calls
attribute [local irreducible] wpStill
open Go.RowKit

def st2Rel (l:List Prt) (MK:List Mk) (SO:List PN) (w1:World) (ov fv nv iv:Value) (wr:World):Prop :=
 ∃ (n i fuel:Nat) (O:List PN),nv=.int .i64 (n:Int)∧iv=.int .i64 (i:Int)∧n≤MK.length∧i≤l.length∧O++outGo l MK fuel i (MK.drop n)=SO∧l.length-i<fuel∧Free l i (MK.drop n) ∧
  wr.ownsRow w1.heap.size 38 3 ov O.length (zV (O.map (·.1)))∧wr.ownsRow w1.heap.size 3 1 fv O.length (intsV (O.map (·.2)))∧Below w1.heap.size w1 wr
noncomputable def stTail:Code:=sndN 8 (Tryz.f7.body.getD .skip)
theorem zSi {W:World} {B:Nat} {O:List PN} {ov fv:Value} (ho:W.ownsRow B 38 3 ov O.length (zV (O.map (·.1)))) (hf:W.ownsRow B 3 1 fv O.length (intsV (O.map (·.2)))) {w1:World} (hb:Below B w1 W) (hB1:B≤w1.heap.size) (x:PN) (hO:O.length≤1000000) (k:Nat) (n:Int) (s:ByteArray) (z:Int) (hx:x=((k,n,s),z)) :
  ∃ v1 W1 v2 W2,(Builtin.append_ #[23,23] 23 #[ov,.slice (some ⟨W.heap.size,0,none⟩) 1 1]).run Tryz.prog (W.alloc (.cells #[.int .u8 (k:Int),.int .i64 n,.string s] 38))=.ok v1 W1 ∧
   (Builtin.append_ #[27,27] 27 #[fv,.slice (some ⟨W1.heap.size,0,none⟩) 1 1]).run Tryz.prog (W1.alloc (.cells #[.int .i64 z] 3))=.ok v2 W2 ∧
   W2.ownsRow B 38 3 v1 (O++[x]).length (zV ((O++[x]).map (·.1)))∧W2.ownsRow B 3 1 v2 (O++[x]).length (intsV ((O++[x]).map (·.2)))∧Below B w1 W2:=by
 subst hx
 have hBW:B≤W.heap.size:=Nat.le_trans hB1 hb.size
 ·obtain ⟨v1,W1,r1,o1,g1,_⟩:=vF (P:=Tryz.prog) W #[.int .u8 (k:Int),.int .i64 n,.string s] 38 23 23 38 Tryz.underlying23 B kD rfl (by decide) ov O.length _ ho 1 1 rfl (Nat.le_refl _) (by intro u hu;simp at hu;rcases hu with rfl | rfl | rfl <;> rfl) (by omega) (by omega) hBW
  have ha:=ho.alloc (.cells #[.int .u8 (k:Int),.int .i64 n,.string s] 38)
  have hba:=hb.alloc hBW (.cells #[.int .u8 (k:Int),.int .i64 n,.string s] 38)
  have hBa:B≤(W.alloc (.cells #[.int .u8 (k:Int),.int .i64 n,.string s] 38)).heap.size:=by simp;omega
  have hb1:=hba.grown g1 hBa (fun k hk=>(ha.lt k hk).1)
  have f1:=xK ha g1 (hf.alloc (.cells #[.int .u8 (k:Int),.int .i64 n,.string s] 38)) (by decide)
  have hB1:B≤W1.heap.size:=Nat.le_trans hBa g1.size
  obtain ⟨v2,W2,r2,f2,g2,_⟩:=vF (P:=Tryz.prog) W1 #[.int .i64 z] 3 27 27 3 Tryz.underlying27 B xY rfl (by decide) fv O.length _ f1 1 1 rfl (Nat.le_refl _) (by intro u hu;simp at hu;subst hu;rfl) (by omega) (by omega) hB1
  have fa:=f1.alloc (.cells #[.int .i64 z] 3)
  have hb1a:=hb1.alloc hB1 (.cells #[.int .i64 z] 3)
  have hb2:=hb1a.grown g2 (by simp;omega) (fun k hk=>(fa.lt k hk).1)
  have o2:=xK fa g2 (o1.alloc (.cells #[.int .i64 z] 3)) (by decide)
  exact ⟨v1,W1,v2,W2,r1,r2,by rw [List.length_append,List.map_append,yK];exact o2,by rw [List.length_append,List.map_append,kX];exact f2,hb2⟩
theorem yAh (v3 v4 v5 v6 v7 v8 v9 v14 v16 v17 v18 v19 v20 v21 v22 v23 v24 v25 v26 v27 v28 v29 v30 v31 v32 v33 v34 v35 v36 v37 v38 v39 v40 v41 v42 v43 v44 v45 v46 v47 v48 v49 v50 v51 v52 v53 v54 v55 v56 v57 v58 v59 v60 v61 v62 v63 v64 v65 v66 v67 v68 v69 v70 v71 v72 v73 v74 v75 v76 v77 v78 v79 v80 v81 v82 v83 v84 v85 v86 v87 v88 v89 v90 v91 v92 v93 v94 v95 v96 v97 v98 v99 v100 v101 v102 v103 v104 v105 v106 v107 v108 v109 v110 v111 v112 v113 v114 v115 v116 v117 v118 v119 v120 v121 v122 v123 v124 v125 v126 v127 v128 v129 v130 v131 v132 v133 v134 v135 v136 v137 v138 v139 v140 v141 v142 v143 v144 v145 v146 v147 v148 v149 v150 v151 v152 v153 v154 v155 v156 v157 v158 v159 v160 v161 v162 v163 v164 v165 v166 v167 v168 v169 v170 v171 v172 v173 v174 v175 v176 v177 v178 v179 v180 v181 v182 v183 v184 v185 v186 v187 v188 v189 v190 v191 v192 v193 v194 v195 v196 v197 v198 v199 v200 v201 v202 v203 v204 v205 v206 v207 v208 v209 v210 v211 v212 v213 v214 v215 v216 v217 v218 v219 v220 v221 v222 v223 v224 v225 v226 v227 v228 v229 v230:Value) (size:Int) (w1:World) (rs:List RuleX) (l:List Prt) (P:List PkX) (ar:Option Addr) (cr:Nat) (lb lo lc:Nat) (ap:Option Addr) (cp:Nat) (eb eo ec ub uo uc gm gd:Nat) (w w6:World) (Q:Ending→World→Prop)
  (F:StF w w6 rs l P (.slice ar rs.length cr) (.slice (some ⟨lb,lo,none⟩) l.length lc) (.slice ap P.length cp) (.slice (some ⟨eb,eo,none⟩) l.length ec) (.slice (some ⟨ub,uo,none⟩) l.length uc) gm gd)
  (hsz:yE (rs.map (·.1)) l (P.map (·.1)) 0 l.length=(if 131072<size then 2 else 0)) (hbd:∀ p∈mksX rs l P,-1≤p.2.2∧p.2.2≤131072) (hst:St1 gm gd w6 (moreL l (mksX rs l P)) ((mksX rs l P).map (·.2.1)) P.length w1)
  (hz:yX (rs.map (·.1)) l=0) (hM:MaxC w1)
  (HQ:Hid (∀ e w',yZ (rs.map (·.1)) l (P.map (·.1)) w e w'→Q e w')) :
  Code.wp Tryz.prog stTail (bodyPost Tryz.prog Tryz.f7 Q) ⟨List.toArray (α:=Value) (.slice ar rs.length cr::.slice (some ⟨lb,lo,none⟩) l.length lc::.slice ap P.length cp::v3::v4::v5::v6::v7::v8::v9::.slice (some ⟨eb,eo,none⟩) l.length ec::.slice (some ⟨ub,uo,none⟩) l.length uc::.slice (some ⟨gm,0,none⟩) l.length l.length::.slice (some ⟨gd,0,none⟩) P.length P.length::v14::.int .i64 size::v16::v17::v18::v19::v20::v21::v22::v23::v24::v25::v26::v27::v28::v29::v30::v31::v32::v33::v34::v35::v36::v37::v38::v39::v40::v41::v42::v43::v44::v45::v46::v47::v48::v49::v50::v51::v52::v53::v54::v55::v56::v57::v58::v59::v60::v61::v62::v63::v64::v65::v66::v67::v68::v69::v70::v71::v72::v73::v74::v75::v76::v77::v78::v79::v80::v81::v82::v83::v84::v85::v86::v87::v88::v89::v90::v91::v92::v93::v94::v95::v96::v97::v98::v99::v100::v101::v102::v103::v104::v105::v106::v107::v108::v109::v110::v111::v112::v113::v114::v115::v116::v117::v118::v119::v120::v121::v122::v123::v124::v125::v126::v127::v128::v129::v130::v131::v132::v133::v134::v135::v136::v137::v138::v139::v140::v141::v142::v143::v144::v145::v146::v147::v148::v149::v150::v151::v152::v153::v154::v155::v156::v157::v158::v159::v160::v161::v162::v163::v164::v165::v166::v167::v168::v169::v170::v171::v172::v173::v174::v175::v176::v177::v178::v179::v180::v181::v182::v183::v184::v185::v186::v187::v188::v189::v190::v191::v192::v193::v194::v195::v196::v197::v198::v199::v200::v201::v202::v203::v204::v205::v206::v207::v208::v209::v210::v211::v212::v213::v214::v215::v216::v217::v218::v219::v220::v221::v222::v223::v224::v225::v226::v227::v228::v229::v230::[]),[]⟩ w1:=by
 unfold stTail
 conv=>arg 2;whnf
 have hll:=F.sl.1
 have hpl:=F.sp.1
 have hmk:(mksX rs l P).length=P.length:=by unfold mksX yA;simp
 have HB1:=Hd (hst.toBelow F.b6 F.g1 F.g2)
 have HST:=Hd hst
 have HMX:=Hd hM
 by_cases hbig:131072<size
 case pos =>
  have HZ:=Hd (HQ.out _ w1 (yZ.no (z:=2) (by unfold stepZ;rw [if_neg (by rw [hz];simp)];have h:=hsz;rw [if_pos hbig] at h;rw [if_pos (by show yE _ _ _ 0 _≠0;rw [h];decide)];show ([],yE _ _ _ 0 _)=_;rw [h]) HB1.out))
  clear hst hM
  go_wp2_with fail
  exact HZ.out
 rw [if_neg hbig] at hsz
 have hsz0:yE (rs.map (·.1)) l (P.map (·.1)) ((0:Nat):Int) l.length=0:=hsz
 have HSO:=Hd (fR F.wl hsz0)
 have HSM:=Hd (zIy F.wl F.sl (fun r hr=>by obtain ⟨x,hx,rfl⟩:=List.mem_map.1 hr;exact (F.rz x hx).1) hsz0)
 have HFR:=Hd (gU hsz0)
 have HEA:=Hd (zEp hsz0)
 have HMS:Hid (∀ i,-137438953472≤yO l (mksX rs l P) i∧yO l (mksX rs l P) i≤137438953472):=Hd (zMj (rules:=rs.map (·.1)) (l:=l) (P:=P.map (·.1)) hbd (by rw [List.length_map];exact hpl))
 have HZ:=Hd (show stepZ (rs.map (·.1)) l (P.map (·.1))=withZ (stepOut (rs.map (·.1)) l (P.map (·.1))) by
  unfold stepZ
  rw [if_neg (by rw [hz];simp),if_neg (by show ¬ yE _ _ _ 0 _≠0;rw [hsz];simp)])
 obtain ⟨SO,hSO⟩:∃ SO,stepOut (rs.map (·.1)) l (P.map (·.1))=SO:=⟨_,rfl⟩
 rw [hSO] at HSO HSM HZ
 have HS0:Hid (outGo l (mksX rs l P) (l.length+1) 0 (mksX rs l P)=SO):=Hd hSO
 clear hSO hsz hsz0 hbd hst hM hz
 go_wp2_with fail
 go_loopw [20,21,22,23] (fun ov fv nv iv wr=>st2Rel l (mksX rs l P) SO w1 ov fv nv iv wr) (fun _ _ _ iv _=>l.length-(intOf iv).toNat)
 case atStart=>exact ⟨0,0,l.length+1,[],rfl,rfl,Nat.zero_le _,Nat.zero_le _,HS0.out,by omega,HFR.out,World.ownsRow_nil _ _ _ _,World.ownsRow_nil _ _ _ _,Below.refl _ _⟩
 case round =>
  obtain ⟨n,i,fuel,O,rfl,rfl,hn,hi,hout,hfu,hfree,hoo,hff,hb⟩:=hrel
  have HOUT:=Hd hout
  have HFREE:=Hd hfree
  have HOO:=Hd hoo
  have HFF:=Hd hff
  have HB:=Hd hb
  have HOL:Hid (O.length≤131072):=Hd (by have:=congrArg List.length hout;rw [List.length_append] at this;have:=HSO.out;omega)
  clear hout hfree hoo hff hb
  obtain ⟨oa,oc,rfl,hoc⟩:=Row.shape (Row.of_owns HOO.out)
  obtain ⟨fa,fc,rfl,hfc⟩:=Row.shape (Row.of_owns HFF.out)
  have HSTw:=Hd (HST.out.below HB.out)
  have HBw:=Hd (zB HB1.out HB.out)
  by_cases hlt:i<l.length
  case neg =>
   obtain rfl:i=l.length:=by omega
   obtain ⟨fu,rfl⟩:∃ fu,fuel=fu+1:=⟨fuel-1,by omega⟩
   have hSO:=HOUT.out
   rw [zRh,List.append_nil] at hSO
   subst hSO
   have hrO:zD wr (.slice oa O.length oc) (O.map (·.1)):=by
    have h:=Row.of_owns HOO.out
    unfold zD
    rw [List.length_map];exact h
   have hrF:zI wr (.slice fa O.length fc) .i64 (O.map (·.2)):=zI.of_owns HFF.out
   have CW:=Hd (zQb wr (O.map (·.1)) (O.map (·.2)) _ _ hrO hrF HSM.out (HMX.out.below HB.out))
   have HE:Hid (∀ e w',xE wr (O.map (·.1)) (O.map (·.2)) e w'→∃ v1 v2 v3,e=.returned (.tuple #[v1,v2,v3])∧Q e w'):=Hd fun e w' h=>by
    unfold xE at h
    obtain ⟨hb2,h⟩:=h
    have hbb:=zB HBw.out hb2
    split at h
    ·rename_i hwf
     subst h
     exact ⟨_,_,_,rfl,HQ.out _ _ (yZ.no (z:=8) (by rw [HZ.out];unfold withZ;rw [if_neg (by rw [hwf];decide)]) hbb)⟩
    ·rename_i hwt
     rw [if_neg (by simp)] at h
     obtain ⟨ov,nv,rfl,h1,h2⟩:=h
     have e:withZ O=(guardZ (O.map (·.1)) (O.map (·.2)),0):=by unfold withZ;rw [if_pos (by simpa using hwt)]
     refine ⟨_,_,_,rfl,HQ.out _ _ ?_⟩
     unfold yZ
     rw [HZ.out,e]
     exact ⟨hbb,ov,nv,rfl,jQ h1 HBw.out.size,jQ h2 HBw.out.size⟩
   clear hrO hrF
   go_wp2_with fail
   refine CW.out.mono ?_
   intro e w5 h5
   obtain ⟨v1,v2,v3,rfl,hq⟩:=HE.out e w5 h5
   have HQF:=Hd hq
   clear hq h5
   go_wp2_with fail
   exact HQF.out
  have hi0:(0:Int)≤(i:Int):=by omega
  have hil:(i:Int)<l.length:=by omega
  have hig:=zN (zK F.wl) hlt
  have hiec:(i:Int)<ec:=by obtain ⟨a,c,e,h,_⟩:=F.N.open';rw [xJ] at e h;simp only [Value.slice.injEq] at e;omega
  have hilc:(i:Int)<lc:=by obtain ⟨a,c,e,h⟩:=F.L.slice;simp only [Value.slice.injEq] at e;omega
  obtain ⟨fu,rfl⟩:∃ fu,fuel=fu+1:=⟨fuel-1,by omega⟩
  have hell:(endsL l)[i]?=some (zC l i:Int):=jB hlt
  by_cases hpk:∃ hn:n<P.length,(P[n]'hn).1.2.1=(i:Int)
  ·obtain ⟨hnl,hpi⟩:=hpk
   have hnm:n<(mksX rs l P).length:=by omega
   have hmx:(mksX rs l P)[n]=mkOf (rs.map (·.1)) l (P[n]).1:=by simp [mksX,yA]
   obtain ⟨r,_,h0,h1,h2,_,h3⟩:=HEA.out (P[n]).1 (List.mem_map.2 ⟨P[n],List.getElem_mem hnl,rfl⟩)
   rw [h2,hpi,Int.toNat_natCast] at hmx
   obtain ⟨M,d,hM,hMl⟩:∃ (M:List PN) (d:Int),(mksX rs l P)[n]=(i,M,d)∧M.length≤131072:=⟨_,_,hmx,h3⟩
   have hdr:(mksX rs l P).drop n=(i,M,d)::(mksX rs l P).drop (n+1):=by rw [← hM];exact List.drop_eq_getElem_cons hnm
   have hout:=HOUT.out
   rw [hdr,outGo,if_pos hlt] at hout
   simp only [if_pos] at hout
   have hfr:=HFREE.out
   rw [hdr] at hfr
   have hol2:O.length+M.length≤131072:=by have:=congrArg List.length hout;rw [List.length_append,List.length_append] at this;have:=HSO.out;omega
   obtain ⟨g,ov,fv,k0,k1,k2,k3,k4,k5⟩:=HST.out.maker (j:=n) (by rw [List.length_map];omega) (by rw [List.length_map];omega)
   have hMM:((mksX rs l P).map (·.2.1))[n]'(by rw [List.length_map];omega)=M:=by rw [List.getElem_map,hM]
   rw [hMM] at k5
   have hbd:=(Below.refl wr.heap.size wr).drew
   have hBd:=HB.out.trans (hbd.mono HB.out.size)
   obtain ⟨q1,q2⟩:=k5 wr.drew (Above.of_below hBd)
   obtain ⟨a1,c1,rfl,hc1⟩:=q1.slice
   obtain ⟨a2,c2,rfl,hc2,_⟩:=q2.open'
   simp only [List.length_map] at q1 q2 k1 k2 k5 hc1 hc2
   obtain ⟨v8,w8,hr8,o8,g8,_⟩:=vV (P:=Tryz.prog) wr.drew 23 23 38 Tryz.underlying23 w1.heap.size kD rfl (by decide) _ O.length _ (zS HOO.out hbd) _ _ _ q1 (fC _) (by rw [List.length_map];omega) (by rw [List.length_map];omega) hBd.size
   have hB8:=hBd.grown g8 hBd.size (fun k hk=>((zS HOO.out hbd).lt k hk).1)
   have f8:=xK (zS HOO.out hbd) g8 (zS HFF.out hbd) (by decide)
   obtain ⟨_,q3⟩:=k5 w8 (Above.of_below hB8)
   obtain ⟨v9,w9,hr9,f9,g9,_⟩:=vV (P:=Tryz.prog) w8 27 27 3 Tryz.underlying27 w1.heap.size xY rfl (by decide) _ O.length _ f8 _ _ _ q3 (zBx _) (by rw [List.length_map];omega) (by rw [List.length_map];omega) hB8.size
   have hB9:=hB8.grown g9 hB8.size (fun k hk=>(f8.lt k hk).1)
   have o9:=xK f8 g9 o8 (by decide)
   obtain ⟨v8a,v8n,v8c,rfl⟩:=zL o8
   obtain ⟨v9a,v9n,v9c,rfl⟩:=zL f9
   have HS:Hid (∀ W',Below w1.heap.size w1 W'→W'.cell? ⟨gd,n,none⟩=some (.pointer (some ⟨g,0,none⟩))∧W'.cell? ⟨g,8,none⟩=some (.slice a1 M.length c1)∧W'.cell? ⟨g,9,none⟩=some (.slice a2 M.length c2)):=Hd fun W' hb=>by
    have lgd:=HST.out.ld
    have ls:=HST.out.size
    exact ⟨by rw [hb.cell (p:=⟨gd,n,none⟩) (by show gd<_;omega)];exact k0,by rw [hb.cell (p:=⟨g,8,none⟩) k4];exact k1,by rw [hb.cell (p:=⟨g,9,none⟩) k4];exact k2⟩
   have HRD:=Hd (HS.out _ hBd)
   have HR8:=Hd (HS.out _ hB8)
   have HR9:=Hd (HS.out _ hB9)
   have HA8:=Hd hr8
   have HA9:=Hd hr9
   have HRL:Hid (st2Rel l (mksX rs l P) SO w1 (.slice v8a v8n v8c) (.slice v9a v9n v9c) (.int .i64 ((n:Int)+1)) (.int .i64 (zC l i:Int)) w9):=Hd ⟨n+1,zC l i,fu,O++M,by push_cast;rfl,rfl,by omega,hig.2,by rw [List.append_assoc];exact hout,by omega,hfr.2.2,by rw [List.length_append,List.map_append,yK];rw [List.length_map] at o9;exact o9,by rw [List.length_append,List.map_append,kX];rw [List.length_map] at f9;exact f9,hB9⟩
   have hec9:=(zAf ((HST.out.below (hB9:Below w1.heap.size w1 w9)).row F.N F.nb) (Below.refl _ _) hell).2
   obtain ⟨pb,po,rfl,_,hpc⟩:=F.K.at HBw.out (show 0<P.length by omega)
   obtain ⟨p0,p1,p2⟩:=hpc n hnl
   rw [hpi] at p1
   have hnc:(n:Int)<cp:=by obtain ⟨a,c,e,h⟩:=F.K.shape;simp only [Value.slice.injEq] at e;omega
   have hn0:(0:Int)≤(n:Int):=by omega
   have hnli:(n:Int)<P.length:=by omega
   have HMSR:Hid (l.length-zC l i<l.length-i):=Hd (by omega)
   clear hpc p0 p2 hout hfr hr8 hr9 o8 o9 f8 f9 g8 g9 q1 q2 q3 k0 k1 k2 k5 hB8 hB9 hBd hbd hdr hM hMM hmx h0 h1 h2 h3 hpi HOUT HFREE HOO HFF
   generalize zC l i=ei at *
   go_upto_region 34 with (fail)
   clear p1
   go_region_held3 (fun W'=>W'.cell? ⟨gd,n,none⟩=some (.pointer (some ⟨g,0,none⟩))∧W'.cell? ⟨g,8,none⟩=some (.slice a1 M.length c1)∧W'.cell? ⟨g,9,none⟩=some (.slice a2 M.length c2)) (first | exact HRD.out | exact HR8.out | exact HR9.out) ((rw [if_pos (by kernel_rfl)];first | (with_reducible (show Oper.wp _ _ _ (wr.drew) _ _);refine yP _ _ _ _ HA8.out rfl rfl rfl rfl ?_) | (with_reducible (show Oper.wp _ _ _ w8 _ _);refine yP _ _ _ _ HA9.out rfl rfl rfl rfl ?_)))
   go_wp2_with fail
   exact ⟨HRL.out,by have:=HMSR.out;simp only [intOf];omega⟩
  have hout2:O++(stayN l (mksX rs l P) i::outGo l (mksX rs l P) fu (i+1) ((mksX rs l P).drop n))=SO∧Free l (i+1) ((mksX rs l P).drop n):=by
   have hout:=HOUT.out
   have hfr:=HFREE.out
   by_cases hnl:n<P.length
   ·have hnm:n<(mksX rs l P).length:=by omega
    have hmx:(mksX rs l P)[n]=mkOf (rs.map (·.1)) l (P[n]).1:=by simp [mksX,yA]
    obtain ⟨r,_,h0,h1,h2,_,h3⟩:=HEA.out (P[n]).1 (List.mem_map.2 ⟨P[n],List.getElem_mem hnl,rfl⟩)
    have hne:(P[n]).1.2.1.toNat≠i:=fun e=>hpk ⟨hnl,by omega⟩
    rw [h2] at hmx
    obtain ⟨x,M,d,hM,hxi⟩:∃ (x:Nat) (M:List PN) (d:Int),(mksX rs l P)[n]=(x,M,d)∧x≠i:=⟨_,_,_,hmx,hne⟩
    have hdr:(mksX rs l P).drop n=(x,M,d)::(mksX rs l P).drop (n+1):=by rw [← hM];exact List.drop_eq_getElem_cons hnm
    rw [hdr] at hout hfr ⊢
    rw [outGo,if_pos hlt] at hout
    simp only [if_neg hxi] at hout
    exact ⟨hout,hfr.tail hxi⟩
   ·rw [List.drop_eq_nil_of_le (by omega)] at hout hfr ⊢
    rw [outGo,if_pos hlt] at hout
    exact ⟨hout,trivial⟩
  have HO2:=Hd hout2
  have hpt:zR l i=l[i]:=by unfold zR;simp [List.getD_eq_getElem?_getD,hlt]
  obtain ⟨q,hq1,_,hq2,_⟩:=zSh (zK F.wl) hlt
  obtain ⟨b2,o2,e',y1,y2,y3,hcc⟩:=F.L.at HBw.out (show 0<l.length by omega)
  simp only [Option.some.injEq,Addr.mk.injEq,and_true] at e'
  obtain ⟨rfl,rfl⟩:=e'
  clear y1 y3 y2 hout2
  obtain ⟨l0,l1,l2⟩:=hcc i hlt
  clear hcc
  have hsx:stayN l (mksX rs l P) i=(((l[i]).1,(l[i]).2.1+yO l (mksX rs l P) i,(l[i]).2.2),(i:Int)):=by unfold stayN;rw [hpt]
  have hms:=HMS.out i
  have hwm:IntKind.i64.wrap ((l[i]).2.1+yO l (mksX rs l P) i)=(l[i]).2.1+yO l (mksX rs l P) i:=by rw [IntKind.wrap_i64,hq1];omega
  rw [hsx] at HO2
  have hmc:=(HSTw.out.below ((Below.refl wr.heap.size wr).alloc (Nat.le_refl _) (.cells #[.int .u8 ((l[i]).1:Int),.int .i64 (l[i]).2.1,.string (l[i]).2.2] 38))).moreCell (u:=i) (by rw [zKu];exact hlt)
  rw [zDs] at hmc
  have HMC:=Hd hmc
  have HP2:Hid (PK (wr.alloc (.cells #[.int .u8 ((l[i]).1:Int),.int .i64 (l[i]).2.1,.string (l[i]).2.2] 38)) wr.heap.size l[i]):=Hd (PK.alloc_new wr l[i])
  have HB2:=Hd (HB.out.alloc HB.out.size (.cells #[.int .u8 ((l[i]).1:Int),.int .i64 (l[i]).2.1,.string (l[i]).2.2] 38))
  have HOO2:=Hd (HOO.out.alloc (.cells #[.int .u8 ((l[i]).1:Int),.int .i64 (l[i]).2.1,.string (l[i]).2.2] 38))
  have HFF2:=Hd (HFF.out.alloc (.cells #[.int .u8 ((l[i]).1:Int),.int .i64 (l[i]).2.1,.string (l[i]).2.2] 38))
  have HGP:Hid (w1.heap.size≤wr.heap.size∧(Value.slice oa O.length oc).ownBlock≠some wr.heap.size∧(Value.slice fa O.length fc).ownBlock≠some wr.heap.size):=Hd ⟨HB.out.size,fun e=>by have:=(HOO.out.lt _ e).2;omega,fun e=>by have:=(HFF.out.lt _ e).2;omega⟩
  have HPART:Hid (∀ hn:n<P.length,((P[n]'hn).1.2.1 == (i:Int))=false):=Hd fun hn=>by rw [beq_eq_false_iff_ne];exact fun e=>hpk ⟨hn,e⟩
  clear hpt hq1 hsx hms hmc hpk HOUT HFREE HMS HEA HOO HFF HFR
  generalize l[i]=pp at *
  obtain ⟨pk,pn,pw⟩:=pp
  generalize yO l (mksX rs l P) i=mr at *
  simp only [] at l0 l1 l2 hwm HO2 HP2 HB2 HOO2 HFF2 HMC
  have hn0:(0:Int)≤(n:Int):=by omega
  by_cases hnl:n<P.length
  ·obtain ⟨pb,po,rfl,_,hpc⟩:=F.K.at HBw.out (show 0<P.length by omega)
   obtain ⟨p0,p1,p2⟩:=hpc n hnl
   have hpx:=HPART.out hnl
   have hnc:(n:Int)<cp:=by obtain ⟨a,c,e,h⟩:=F.K.shape;simp only [Value.slice.injEq] at e;omega
   have hnli:(n:Int)<P.length:=by omega
   clear hpc p0 p2 HPART
   generalize (P[n]).1.2.1=px at *
   go_upto_region 38 with (fail)
   generalize wr.alloc (.cells #[.int .u8 (pk:Int),.int .i64 pn,.string pw] 38)=W2 at *
   have d0:=HP2.out.c0
   have d1:=HP2.out.c1
   have d2:=HP2.out.c2
   have dz:W2.drew.frozen? ⟨wr.heap.size,1,none⟩=false:=HP2.out.fz 1
   simp only [] at d0 d1 d2
   obtain ⟨mc,mz⟩:=HMC.out
   have HP3:Hid (PK (W2.drew.setCell ⟨wr.heap.size,1,none⟩ (.int .i64 (pn+mr))) wr.heap.size (pk,pn+mr,pw)):=Hd (by
    have h:PK W2.drew wr.heap.size (pk,pn,pw):=HP2.out.keep (Below.refl _ _).drew
    unfold PK at *
    exact heap_setCell_same _ _ 1 _ _ _ h)
   have HB3:=Hd (HB2.out.drew.setCell (p:=⟨wr.heap.size,1,none⟩) HGP.out.1 (.int .i64 (pn+mr)))
   have HOO3:=Hd (ownsRow_setCell_other (zS HOO2.out (Below.refl _ _).drew) (a:=⟨wr.heap.size,1,none⟩) HGP.out.2.1 (.int .i64 (pn+mr)))
   have HFF3:=Hd (ownsRow_setCell_other (zS HFF2.out (Below.refl _ _).drew) (a:=⟨wr.heap.size,1,none⟩) HGP.out.2.2 (.int .i64 (pn+mr)))
   go_still_tail 7,(by kernel_rfl)
   change wpList _ _ _ _ _ W2.drew
   have d1:W2.drew.cell? ⟨wr.heap.size,1,none⟩=some (.int .i64 pn):=d1
   generalize W2.drew=W3 at *
   go_upto_region 39 with (fail)
   clear d0 d1 d2 dz mc mz
   generalize W3.setCell ⟨wr.heap.size,1,none⟩ (.int .i64 (pn+mr))=W4 at *
   obtain ⟨v1,W5,v2,W6,hr1,hr2,ho6,hf6,hb6⟩:=zSi HOO3.out HFF3.out HB3.out (Nat.le_refl _) ((pk,pn+mr,pw),(i:Int)) (by have:=HOL.out;omega) pk (pn+mr) pw (i:Int) rfl
   obtain ⟨v1a,v1n,v1c,rfl⟩:=zL ho6
   obtain ⟨v2a,v2n,v2c,rfl⟩:=zL hf6
   have HA1:=Hd hr1
   have HA2:=Hd hr2
   have HRL:Hid (st2Rel l (mksX rs l P) SO w1 (.slice v1a v1n v1c) (.slice v2a v2n v2c) (.int .i64 (n:Int)) (.int .i64 ((i:Int)+1)) W6):=Hd ⟨n,i+1,fu,O++[((pk,pn+mr,pw),(i:Int))],rfl,by push_cast;rfl,hn,hlt,by rw [List.append_assoc];exact HO2.out.1,by omega,HO2.out.2,ho6,hf6,hb6⟩
   have d0:=HP3.out.c0
   have d1:=HP3.out.c1
   have d2:=HP3.out.c2
   simp only [] at d0 d1 d2
   clear hr1 hr2 ho6 hf6 hb6 HP2 HP3 HOO2 HFF2 HOO3 HFF3 HB2 HB3 HMC
   go_wp2_with (first | (at_builtin;refine zF rfl _ _ _ _ HA1.out rfl rfl rfl rfl ?_) | (at_builtin;refine zF rfl _ _ _ _ HA2.out rfl rfl rfl rfl ?_))
   exact ⟨HRL.out,by simp only [intOf];omega⟩
  ·have hnli:¬ (n:Int)<P.length:=by omega
   go_upto_region 38 with (fail)
   generalize wr.alloc (.cells #[.int .u8 (pk:Int),.int .i64 pn,.string pw] 38)=W2 at *
   have d0:=HP2.out.c0
   have d1:=HP2.out.c1
   have d2:=HP2.out.c2
   have dz:W2.drew.frozen? ⟨wr.heap.size,1,none⟩=false:=HP2.out.fz 1
   simp only [] at d0 d1 d2
   obtain ⟨mc,mz⟩:=HMC.out
   have HP3:Hid (PK (W2.drew.setCell ⟨wr.heap.size,1,none⟩ (.int .i64 (pn+mr))) wr.heap.size (pk,pn+mr,pw)):=Hd (by
    have h:PK W2.drew wr.heap.size (pk,pn,pw):=HP2.out.keep (Below.refl _ _).drew
    unfold PK at *
    exact heap_setCell_same _ _ 1 _ _ _ h)
   have HB3:=Hd (HB2.out.drew.setCell (p:=⟨wr.heap.size,1,none⟩) HGP.out.1 (.int .i64 (pn+mr)))
   have HOO3:=Hd (ownsRow_setCell_other (zS HOO2.out (Below.refl _ _).drew) (a:=⟨wr.heap.size,1,none⟩) HGP.out.2.1 (.int .i64 (pn+mr)))
   have HFF3:=Hd (ownsRow_setCell_other (zS HFF2.out (Below.refl _ _).drew) (a:=⟨wr.heap.size,1,none⟩) HGP.out.2.2 (.int .i64 (pn+mr)))
   go_still_tail 7,(by kernel_rfl)
   change wpList _ _ _ _ _ W2.drew
   have d1:W2.drew.cell? ⟨wr.heap.size,1,none⟩=some (.int .i64 pn):=d1
   generalize W2.drew=W3 at *
   go_upto_region 39 with (fail)
   clear d0 d1 d2 dz mc mz
   generalize W3.setCell ⟨wr.heap.size,1,none⟩ (.int .i64 (pn+mr))=W4 at *
   obtain ⟨v1,W5,v2,W6,hr1,hr2,ho6,hf6,hb6⟩:=zSi HOO3.out HFF3.out HB3.out (Nat.le_refl _) ((pk,pn+mr,pw),(i:Int)) (by have:=HOL.out;omega) pk (pn+mr) pw (i:Int) rfl
   obtain ⟨v1a,v1n,v1c,rfl⟩:=zL ho6
   obtain ⟨v2a,v2n,v2c,rfl⟩:=zL hf6
   have HA1:=Hd hr1
   have HA2:=Hd hr2
   have HRL:Hid (st2Rel l (mksX rs l P) SO w1 (.slice v1a v1n v1c) (.slice v2a v2n v2c) (.int .i64 (n:Int)) (.int .i64 ((i:Int)+1)) W6):=Hd ⟨n,i+1,fu,O++[((pk,pn+mr,pw),(i:Int))],rfl,by push_cast;rfl,hn,hlt,by rw [List.append_assoc];exact HO2.out.1,by omega,HO2.out.2,ho6,hf6,hb6⟩
   have d0:=HP3.out.c0
   have d1:=HP3.out.c1
   have d2:=HP3.out.c2
   simp only [] at d0 d1 d2
   clear hr1 hr2 ho6 hf6 hb6 HP2 HP3 HOO2 HFF2 HOO3 HFF3 HB2 HB3 HMC
   go_wp2_with (first | (at_builtin;refine zF rfl _ _ _ _ HA1.out rfl rfl rfl rfl ?_) | (at_builtin;refine zF rfl _ _ _ _ HA2.out rfl rfl rfl rfl ?_))
   exact ⟨HRL.out,by simp only [intOf];omega⟩
end Go.Proofs.YtfalelkfhandfaaGreatDoor
namespace Go.Proofs.YtfalelkfhandfaaGreatDoor
set_option maxRecDepth 100000
set_option maxHeartbeats 32000000
set_option linter.all false
attribute [local irreducible] Calls
attribute [local irreducible] wpStill
open Go.RowKit

theorem zYp:(Tryz.prog.info? 58).map (fun i=>(i.zero,i.size,i.bytes))=some (some (.pointer none),1,8):=by kernel_rfl
theorem zUq (n:Nat) (hn:n≤1000000000) (w:World) :
  (Instr.makeSlice 56 (.int .i64 (n:Int)) (.int .i64 (n:Int))).run Tryz.prog w=.ok (.slice (some ⟨w.heap.size,0,none⟩) n n) (w.alloc (.cells (List.replicate n (Value.pointer none)).toArray 58)):=by
 obtain ⟨i,hi,hz,hsz,hb⟩:=info_parts zYp
 have hr:=run_make (P:=Tryz.prog) w 56 58 i (.pointer none) Tryz.underlying56 hi hz .i64 .i64 (n:Int) (n:Int) (by omega) (Int.le_refl _) (by rw [hb];omega) (by omega)
 rw [hsz] at hr
 have e:madeCells (Value.pointer none).cells ((n:Int).toNat*1)=(List.replicate n (Value.pointer none)).toArray:=by
  apply Array.ext'
  rw [Int.toNat_natCast,Nat.mul_one]
  show (madeCells #[.pointer none] n).toList=_
  rw [toList_madeCells_one]
 rw [e] at hr
 rw [hr]
 simp only [Int.toNat_natCast]
theorem zKt (rs:List RuleX) (hs:∀ x∈rs,SmallR x.1) (l:List Prt) (sl:SmallL l) (P:List PkX) (sp:P.length≤1048576∧∀ x∈P,x.1.2.2.length≤1048576) (vr vl vp:Value) (w:World) (hT:Tabs w) (hM:MaxC w) (hr:xZ w vr rs) (hlr:zD w vl l) (hp:vQ w vp P) :
  Calls Tryz.prog 7 #[vr,vl,vp] w (yZ (rs.map (·.1)) l (P.map (·.1)) w):=by
 obtain ⟨Q,hQ⟩:∃ Q,yZ (rs.map (·.1)) l (P.map (·.1)) w=Q:=⟨_,rfl⟩
 have HQ:Hid (∀ e w',yZ (rs.map (·.1)) l (P.map (·.1)) w e w'→Q e w'):=Hd fun e w' h=>by rw [← hQ];exact h
 have HNO:Hid (∀ w' (z:Int),stepZ (rs.map (·.1)) l (P.map (·.1))=([],z)→Below w.heap.size w w'→Q (.returned (.tuple #[.slice none 0 0,.slice none 0 0,.int .i64 z])) w'):=Hd fun w' z h hb=>HQ.out _ _ (yZ.no h hb)
 rw [hQ]
 clear hQ
 have hll:=sl.1
 have hpl:=sp.1
 have CC:=Hd (zPx rs hs l hll vr vl w hT hM hr hlr)
 obtain ⟨ar,cr,rfl,hcr⟩:=hr.shape
 obtain ⟨ap,cp,rfl,hcp⟩:=hp.shape
 have HR:=Hd hr
 have HL:=Hd hlr
 have HP:=Hd hp
 have HS:=Hd hs
 have HSL:=Hd sl
 have HSP:=Hd sp
 have HMX:=Hd hM
 obtain ⟨la,lc,rfl,hlc⟩:=hlr.slice
 clear hr hlr hp hs sl sp hT hM
 go_enter Tryz.func7,Tryz.ntmps7
 go_wp2_with fail
 refine CC.out.mono ?_
 rintro e w1 ⟨rfl,hb1⟩
 have HB1:=Hd hb1
 clear hb1 CC
 by_cases hz:yX (rs.map (·.1)) l=0
 case neg =>
  have HZ:=Hd (HNO.out w1 _ (by unfold stepZ;rw [if_pos hz]) HB1.out)
  have g1:(yX (rs.map (·.1)) l != 0)=true:=by rw [bne_iff_ne];exact hz
  have g2:(yX (rs.map (·.1)) l == 0)=false:=by rw [beq_eq_false_iff_ne];exact hz
  clear hz
  generalize yX (rs.map (·.1)) l=z at *
  go_wp2_with fail
  exact HZ.out
 have HZ:=Hd hz
 have hwl:=(gJ.1 hz).1
 have HWL:=Hd hwl
 have CE:=Hd (zJj l (by omega) _ (zK hwl) _ w1 (HL.out.below HB1.out))
 obtain ⟨lb,lo,rfl,y1,y2,y3,y4⟩:=HL.out.at (Below.refl _ _) (xA hwl).1
 rw [hz]
 clear hz hwl y1 y2 y3 y4
 go_wp2_with fail
 refine CE.out.mono ?_
 intro e w2 h2
 unfold ends2Post at h2
 obtain ⟨ve,rfl,hb2,ho2⟩:=h2
 obtain ⟨ea,en,ec,rfl⟩:=zL ho2
 obtain rfl:en=l.length:=by
  obtain ⟨_,_,_,e,_⟩:=Row.of_owns ho2
  simp only [Value.slice.injEq] at e
  exact e.2.1
 obtain ⟨eb,rfl⟩:=xI ho2 (xA HWL.out).1
 have HO2:=Hd ho2
 have HB2:=Hd (zB HB1.out hb2)
 have hri:zI w2 (.slice (some ⟨eb,0,none⟩) l.length ec) .i64 (endsL l):=zI.of_owns ho2
 have CU:=Hd (zZg l (by omega) HWL.out _ _ w2 (HL.out.below HB2.out) hri)
 clear hb2 ho2 CE hri
 go_wp2_with fail
 refine CU.out.mono ?_
 intro e w3 h3
 unfold fupsPost at h3
 obtain ⟨vu,rfl,hb3,ho3⟩:=h3
 obtain ⟨ua,un,uc,rfl⟩:=zL ho3
 obtain rfl:un=l.length:=by
  obtain ⟨_,_,_,e,_⟩:=Row.of_owns ho3
  simp only [Value.slice.injEq] at e
  exact e.2.1
 obtain ⟨ub,rfl⟩:=xI ho3 (xA HWL.out).1
 have HO3:=Hd ho3
 have HO2':=Hd (zS HO2.out hb3)
 have HB3:=Hd (zB HB2.out hb3)
 clear hb3 ho3 CU HO2
 have hmk1:=fD l.length (by omega)
 have hmk2:=zUq P.length (by omega)
 have HW6:Hid (∀ w4 w6,w4=w3.alloc (.cells (Array.replicate l.length (Value.int .i64 0)) 3)→w6=w4.alloc (.cells (Array.replicate P.length (Value.pointer none)) 58)→w4.heap.size=w3.heap.size+1 ∧
   StF w w6 rs l P (.slice ar rs.length cr) (.slice (some ⟨lb,lo,none⟩) l.length lc) (.slice ap P.length cp) (.slice (some ⟨eb,0,none⟩) l.length ec) (.slice (some ⟨ub,0,none⟩) l.length uc) w3.heap.size (w3.heap.size+1)∧St1 w3.heap.size (w3.heap.size+1) w6 (moreL l []) [] P.length w6):=Hd fun w4 w6 h4 h6=>by
  have s4:w4.heap.size=w3.heap.size+1:=by rw [h4];simp
  have s6:w6.heap.size=w3.heap.size+2:=by rw [h6];simp [s4]
  have b4:Below w3.heap.size w3 w4:=by rw [h4];exact (Below.refl _ _).alloc (Nat.le_refl _) _
  have b6:Below w4.heap.size w4 w6:=by rw [h6];exact (Below.refl _ _).alloc (Nat.le_refl _) _
  have b36:=zB b4 b6
  have hbw:Below w.heap.size w w6:=zB HB3.out b36
  have l3:=HB3.out.size
  have g4:w4.heap[w3.heap.size]?=some (.cells (Array.replicate l.length (Value.int .i64 0)) 3 (0,0)):=by rw [h4];exact heap_alloc_new _ _
  have g6:w6.heap[w3.heap.size+1]?=some (.cells (Array.replicate P.length (Value.pointer none)) 58 (0,0)):=by
   have:=heap_alloc_new w4 (.cells (Array.replicate P.length (Value.pointer none)) 58)
   rw [s4] at this
   rw [h6];exact this
  refine ⟨s4,⟨HR.out,HL.out,HP.out,(zI.of_owns HO2'.out).below b36,(zI.of_owns HO3.out).below b36,fun b e=>?_,fun b e=>?_,hbw,l3,by omega,fun x hx=>⟨HS.out x hx,?_⟩,HWL.out,HSL.out,HSP.out⟩,⟨rfl,rfl,rfl,Nat.le_refl _,fun _ _ _ _=>rfl,?_,⟨_,g6,by simp,fun j hj=>by simp at hj⟩,by omega,by omega,by omega⟩⟩
  ·have:=(HO2'.out.lt b e).2;omega
  ·have:=(HO3.out.lt b e).2;omega
  ·exact (gJ.1 HZ.out).2.2 x.1 (List.mem_map.2 ⟨x,hx,rfl⟩)
  ·rw [keeps b6 g4,zUs,List.map_replicate,List.toArray_replicate]
 go_upto_block 0 with (fail)
 rename_i hK'
 generalize hw4:w3.alloc (.cells (Array.replicate l.length (Value.int .i64 0)) 3)=w4 at *
 generalize hw6:w4.alloc (.cells (Array.replicate P.length (Value.pointer none)) 58)=w6 at *
 obtain ⟨hs4,hF,hSt⟩:=HW6.out w4 w6 rfl hw6.symm
 have hb36:Below w.heap.size w w6:=hF.b6
 have HERR:Hid (∀ (z:Int) w',yE (rs.map (·.1)) l (P.map (·.1)) 0 l.length=z→z≠0→Below w.heap.size w w'→Q (.returned (.tuple #[.slice none 0 0,.slice none 0 0,.int .i64 z])) w'):=Hd fun z w' h h0 hb=>HNO.out w' z (by
  unfold stepZ
  rw [if_neg (by rw [HZ.out];simp),if_pos (by show yE _ _ _ 0 _≠0;rw [h];exact h0)]
  show ([],yE _ _ _ 0 _)=_
  rw [h]) hb
 exact zYo _ _ _ _ _ _ _ _ _ _ _ _ _ _ _ _ _ _ _ _ _ _ _ _ _ _ _ _ _ _ _ _ _ _ _ _ _ _ _ _ _ _ _ _ _ _ _ _ _ _ _ _ _ _ _ _ _ _ _ _ _ _ _ _ _ _ _ _ _ _ _ _ _ _ _ _ _ _ _ _ _ _ _ _ _ _ _ _ _ _ _ _ _ _ _ _ _ _ _ _ _ _ _ _ _ _ _ _ _ _ _ _ _ _ _ _ _ _ _ _ _ _ _ _ _ _ _ _ _ _ _ _ _ _ _ _ _ _ _ _ _ _ _ _ _ _ _ _ _ _ _ _ _ _ _ _ _ _ _ _ _ _ _ _ _ _ _ _ _ _ _ _ _ _ _ _ _ _ _ _ _ _ _ _ _ _ _ _ _ _ _ _ _ _ _ _ _ _ _ _ _ _ _ _ _ _ _ _ _ _ _ _ _ _ _ _ _ _ _ rs l P ar cr lb lo lc ap cp eb 0 ec ub 0 uc w3.heap.size (w3.heap.size+1) w w6 Q hF (Hd hSt) HERR _ (Hd (fun v3 v4 v5 v6 v7 v8 v9 v14 v16 v17 v18 v19 v20 v21 v22 v23 v24 v25 v26 v27 v28 v29 v30 v31 v32 v33 v34 v35 v36 v37 v38 v39 v40 v41 v42 v43 v44 v45 v46 v47 v48 v49 v50 v51 v52 v53 v54 v55 v56 v57 v58 v59 v60 v61 v62 v63 v64 v65 v66 v67 v68 v69 v70 v71 v72 v73 v74 v75 v76 v77 v78 v79 v80 v81 v82 v83 v84 v85 v86 v87 v88 v89 v90 v91 v92 v93 v94 v95 v96 v97 v98 v99 v100 v101 v102 v103 v104 v105 v106 v107 v108 v109 v110 v111 v112 v113 v114 v115 v116 v117 v118 v119 v120 v121 v122 v123 v124 v125 v126 v127 v128 v129 v130 v131 v132 v133 v134 v135 v136 v137 v138 v139 v140 v141 v142 v143 v144 v145 v146 v147 v148 v149 v150 v151 v152 v153 v154 v155 v156 v157 v158 v159 v160 v161 v162 v163 v164 v165 v166 v167 v168 v169 v170 v171 v172 v173 v174 v175 v176 v177 v178 v179 v180 v181 v182 v183 v184 v185 v186 v187 v188 v189 v190 v191 v192 v193 v194 v195 v196 v197 v198 v199 v200 v201 v202 v203 v204 v205 v206 v207 v208 v209 v210 v211 v212 v213 v214 v215 v216 v217 v218 v219 v220 v221 v222 v223 v224 v225 v226 v227 v228 v229 v230 size wr h1 h2 h3=>hK' _ _ (yAh v3 v4 v5 v6 v7 v8 v9 v14 v16 v17 v18 v19 v20 v21 v22 v23 v24 v25 v26 v27 v28 v29 v30 v31 v32 v33 v34 v35 v36 v37 v38 v39 v40 v41 v42 v43 v44 v45 v46 v47 v48 v49 v50 v51 v52 v53 v54 v55 v56 v57 v58 v59 v60 v61 v62 v63 v64 v65 v66 v67 v68 v69 v70 v71 v72 v73 v74 v75 v76 v77 v78 v79 v80 v81 v82 v83 v84 v85 v86 v87 v88 v89 v90 v91 v92 v93 v94 v95 v96 v97 v98 v99 v100 v101 v102 v103 v104 v105 v106 v107 v108 v109 v110 v111 v112 v113 v114 v115 v116 v117 v118 v119 v120 v121 v122 v123 v124 v125 v126 v127 v128 v129 v130 v131 v132 v133 v134 v135 v136 v137 v138 v139 v140 v141 v142 v143 v144 v145 v146 v147 v148 v149 v150 v151 v152 v153 v154 v155 v156 v157 v158 v159 v160 v161 v162 v163 v164 v165 v166 v167 v168 v169 v170 v171 v172 v173 v174 v175 v176 v177 v178 v179 v180 v181 v182 v183 v184 v185 v186 v187 v188 v189 v190 v191 v192 v193 v194 v195 v196 v197 v198 v199 v200 v201 v202 v203 v204 v205 v206 v207 v208 v209 v210 v211 v212 v213 v214 v215 v216 v217 v218 v219 v220 v221 v222 v223 v224 v225 v226 v227 v228 v229 v230 size wr rs l P ar cr lb lo lc ap cp eb 0 ec ub 0 uc w3.heap.size (w3.heap.size+1) w w6 Q hF h1 h2 h3 HZ.out (HMX.out.below (h3.toBelow hb36 hF.g1 hF.g2)) HQ)))
end Go.Proofs.YtfalelkfhandfaaGreatDoor
