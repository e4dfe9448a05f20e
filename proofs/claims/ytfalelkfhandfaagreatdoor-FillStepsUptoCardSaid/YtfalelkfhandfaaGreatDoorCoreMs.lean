/- Small lemmas on worlds, strings and conversions that all walks of this seat use. They hold for this seat's program without any condition. -/
import Derived.Test.YtfalelkfhandfaaGreatDoorProg
import Derived.WalkKit
import Derived.WalkSpells
import Derived.WalkLawsBesides
import Derived.Handy
import Derived.Outline
import Derived.Lib.Hide
import Derived.Lib.OthersKept
import Derived.Laws.AppendOwnNone
import Derived.Laws.BytesArg
namespace Go.Proofs.YtfalelkfhandfaaGreatDoor
theorem Hd {p:Prop} (h:p):Go.RowKit.Hid p:=h
open Go.RowKit

theorem zVl (w:World) (C:Array Value) (e:TypeId) (xs:List Int) (h:C=(xs.map (Value.int .u8)).toArray) (i:Nat) (hi:i<xs.length) :
  (w.alloc (.cells C e)).cell? ⟨w.heap.size,0+i,none⟩=some (.int .u8 (xs.getD i 0)):=by
 subst h
 rw [World.cell?_alloc_at _ _ _ _ rfl]
 simp [hi]
theorem gW (w:World) (C:Array Value) (xs:List Int) (n c:Nat) (h:C=(xs.map (Value.int .u8)).toArray) (hn:xs.length=n) :
  (convert 145 9 (.slice (some ⟨w.heap.size,0,none⟩) n c)).run Tryz.prog (w.alloc (.cells C 5))=.ok (.string (strOfNums xs)) (w.alloc (.cells C 5)):=by
 refine run_convert_bytes_arg _ 145 5 Tryz.underlying145 Tryz.underlying5 _ 0 n c xs hn (fun i hi=>?_) 9 Tryz.underlying9
 exact zVl w C 5 xs h i (by omega)
theorem yW {a b:Bool} (h:a=b):Ending.returned (.bool a)=.returned (.bool b):=by rw [h]
theorem zBv {a b:ByteArray} (h:a=b):Ending.returned (.string a)=.returned (.string b):=by rw [h]
theorem zAn {k:IntKind} {a b:Int} (h:a=b):Ending.returned (.int k a)=.returned (.int k b):=by rw [h]
theorem vJ {k l:IntKind} {a b c d:Int} (h:a=b) (g:c=d):Ending.returned (.tuple #[.int k a,.int l c])=.returned (.tuple #[.int k b,.int l d]):=by rw [h,g]

def iterLeft (k:Nat) (w:World):Nat:=match w.heap[k]? with
 | some (.stringIter s pos)=>s.size-pos
 | _=>0
theorem vY {w:World} {k:Nat} {s:ByteArray} {pos:Nat} (h:w.heap[k]?=some (.stringIter s pos)):iterLeft k w=s.size-pos:=by
 unfold iterLeft;rw [h]
theorem keeps {w w':World} (hb:Below w.heap.size w w') {k:Nat} {o:Obj} (h:w.heap[k]?=some o):w'.heap[k]?=some o:=by
 rw [hb.block k (Array.getElem?_eq_some_iff.1 h).1];exact h
theorem zB {w a b:World} (h:Below w.heap.size w a) (k:Below a.heap.size a b):Below w.heap.size w b:=h.trans (k.mono h.size)
theorem zP {w:World} {k:Nat} {o:Obj} (h:w.heap[k]?=some o):k<w.heap.size:=(Array.getElem?_eq_some_iff.1 h).1
section
variable {P:Program}
theorem yR {ops:Array Oper} {rest:List Oper} {o:Oper} {a:Act} {Q:Exit→Act→World→Prop} (w0:World) (C:Array Value) (e':TypeId) (hgd:o.guard=none) (s x:Operand) (t e:TypeId)
  (ho:o.op=.call { callee:=.builtin .append,args:=#[s,x],argTypes:=#[t,t] }) (ht:P.underlying t=some (.slice e))
  (base:Nat) {z:Value} {size bytes:Nat} (hinfo:(P.info? e).map (fun i=>(i.zero,i.size,i.bytes))=some (some z,size,bytes)) (hzs:z.cells.size=size) (hsz:0<size)
  (v:Value) (n:Nat) (xs:List Value) (hs:a.eval s=v) (hown:w0.ownsRow base e size v n xs)
  (m c:Nat) (hx:a.eval x=.slice (some ⟨w0.heap.size,0,none⟩) m c) (hl:C.size=m*size) (hm:0<m) (h1:∀ u∈C.toList,u.oneCell'=true)
  (h63:n+m≤140737488355328) (hbytes:(n+m)*bytes≤140737488355328) (hbase:base≤w0.heap.size)
  (h:∀ v' w',w'.ownsRow base e size v' (n+m) (xs++C.toList)→(w0.alloc (.cells C e')).grownBy w' v.ownBlock→v'≠.slice none 0 0→wpList P ops Q rest (a.put o.dst v') w') :
  wpList P ops Q (o::rest) a (w0.alloc (.cells C e')):=by
 obtain ⟨i,hi,hz0,hz1,hz2⟩:=info_parts hinfo
 refine wpList_append_own (w:=w0.alloc (.cells C e')) hgd s x t ho base e i z size bytes ht hi hz0 hz1 hz2 hzs hsz v n xs hs (hown.alloc _) ⟨w0.heap.size,0,none⟩ m c C.toList hx (by simpa using hl) ?_ h1 ?_ hbytes (by simp;omega) ?_
 ·intro j u hj
  have e1:(⟨w0.heap.size,0,none⟩:Addr).add j=⟨w0.heap.size,j,none⟩:=by simp [Addr.add];omega
  rw [e1,World.cell?_alloc_at _ _ _ _ rfl]
  simpa using hj
 ·unfold maxLen;omega
 ·intro v' w' g1 g2 g3
  exact h v' w' g1 g2 (fun e=>by have:=(g3.1 e).2;omega)
end
theorem vZ {w0 w':World} {o:Obj} {B:Nat} {a:World} {v:Value} {e:TypeId} {size n:Nat} {xs:List Value} (hb:Below B a w0) (hB:B≤w0.heap.size) (hown:w0.ownsRow B e size v n xs) (hg:(w0.alloc o).grownBy w' v.ownBlock):Below B a w' :=
 (hb.alloc hB o).grown hg (by simp;omega) (fun k hk=>(hown.lt k hk).1)
theorem zS {w w':World} {B:Nat} {v:Value} {e:TypeId} {size n:Nat} {xs:List Value} (h:w.ownsRow B e size v n xs) (hb:Below w.heap.size w w'):w'.ownsRow B e size v n xs:=by
 obtain ⟨h1,h2⟩:=h
 refine ⟨h1,?_⟩
 rcases h2 with h2 | ⟨g,cap,cur,hv,hg,hh,r⟩
 ·exact Or.inl h2
 ·exact Or.inr ⟨g,cap,cur,hv,hg,keeps hb hh,r⟩
theorem zL {w:World} {B:Nat} {v:Value} {e:TypeId} {size n:Nat} {xs:List Value} (h:w.ownsRow B e size v n xs):∃ a m c,v=.slice a m c:=by
 rcases h.2 with ⟨hv,_⟩ | ⟨g,cap,cur,hv,_⟩
 ·exact ⟨_,_,_,hv⟩
 ·exact ⟨_,_,_,hv⟩
theorem jM {w:World} {B B':Nat} {v:Value} {e:TypeId} {size n:Nat} {xs:List Value} (h:w.ownsRow B e size v n xs) (hB:B'≤B):w.ownsRow B' e size v n xs:=by
 obtain ⟨h1,h2⟩:=h
 refine ⟨h1,?_⟩
 rcases h2 with h2 | ⟨g,cap,cur,hv,hg,hh,r⟩
 ·exact Or.inl h2
 ·exact Or.inr ⟨g,cap,cur,hv,Nat.le_trans hB hg,hh,r⟩

def Row (w:World) (v:Value) (n sz:Nat) (cs:List Value):Prop :=
 cs.length=n*sz∧∃ a cap,v=.slice a n cap∧n≤cap∧(a=none→cap=0)∧(0<n→∃ b off,a=some ⟨b,off,none⟩∧b<w.heap.size∧∀ i,i<n*sz→w.cell? ⟨b,off+i,none⟩=cs[i]?)
theorem Row.below {w w':World} {v:Value} {n sz:Nat} {cs:List Value} (h:Row w v n sz cs) (hb:Below w.heap.size w w'):Row w' v n sz cs:=by
 obtain ⟨h1,a,cap,hv,hc,hz,h2⟩:=h
 refine ⟨h1,a,cap,hv,hc,hz,fun hn=>?_⟩
 obtain ⟨b,off,ha,hlt,hcell⟩:=h2 hn
 exact ⟨b,off,ha,Nat.lt_of_lt_of_le hlt hb.size,fun i hi=>by rw [hb.cell (p:=⟨b,off+i,none⟩) hlt];exact hcell i hi⟩
theorem Row.of_owns {w:World} {B:Nat} {v:Value} {e:TypeId} {size n:Nat} {xs:List Value} (h:w.ownsRow B e size v n xs):Row w v n size xs:=by
 refine ⟨h.1,?_⟩
 rcases h.2 with ⟨hv,hn⟩ | ⟨g,cap,cur,hv,hg,hh,hnc,_,hcs,htk⟩
 ·subst hn;exact ⟨none,0,hv,Nat.le_refl _,fun _=>rfl,fun h=>absurd h (by omega)⟩
 ·refine ⟨some ⟨g,0,none⟩,cap,hv,hnc,(by simp),fun _=>⟨g,0,rfl,zP hh,fun i hi=>?_⟩⟩
  have hown:w.ownsRow B e size (.slice (some ⟨g,0,none⟩) n cap) n xs:=hv ▸ h
  rw [Nat.zero_add]
  exact hown.cellAt i hi
theorem zAo {w:World} {B:Nat} {v:Value} {n:Nat} {xs:List Int} (h:w.ownsRow B 5 1 v n (xs.map (Value.int .u8))) :
  (convert 145 9 v).run Tryz.prog w=.ok (.string (strOfNums xs)) w:=by
 have hl:xs.length=n:=by have:=h.1;simpa using this
 rcases h.2 with ⟨hv,hn⟩ | ⟨g,cap,cur,hv,hg,hh,hnc,_,hcs,htk⟩
 ·subst hv;subst hn
  have hx:xs=[]:=List.eq_nil_of_length_eq_zero hl
  subst hx
  exact run_convert_bytes_nil (P:=Tryz.prog) (w:=w) 145 5 Tryz.underlying145 Tryz.underlying5 0 0 9 Tryz.underlying9
 ·have hown:w.ownsRow B 5 1 (.slice (some ⟨g,0,none⟩) n cap) n (xs.map (Value.int .u8)):=hv ▸ h
  subst hv
  refine run_convert_bytes_arg _ 145 5 Tryz.underlying145 Tryz.underlying5 g 0 n cap xs hl (fun i hi=>?_) 9 Tryz.underlying9
  rw [Nat.zero_add,hown.cellAt i (by omega)]
  simp [hl ▸ hi]
def zI (w:World) (v:Value) (k:IntKind) (l:List Int):Prop:=Row w v l.length 1 (l.map (Value.int k))
theorem zI.below {w w':World} {v:Value} {k:IntKind} {l:List Int} (h:zI w v k l) (hb:Below w.heap.size w w'):zI w' v k l:=Row.below h hb
theorem zI.open' {w:World} {v:Value} {k:IntKind} {l:List Int} (h:zI w v k l) :
  ∃ a cap,v=.slice a l.length cap∧l.length≤cap∧(0<l.length→∃ b off,a=some ⟨b,off,none⟩∧b<w.heap.size∧∀ i (hi:i<l.length),w.cell? ⟨b,off+i,none⟩=some (.int k l[i])):=by
 obtain ⟨_,a,cap,hv,hc,_,h2⟩:=h
 refine ⟨a,cap,hv,hc,fun hn=>?_⟩
 obtain ⟨b,off,ha,hlt,hcell⟩:=h2 hn
 refine ⟨b,off,ha,hlt,fun i hi=>?_⟩
 rw [hcell i (by omega)]
 simp [hi]
theorem zI.of_owns {w:World} {B:Nat} {v:Value} {e:TypeId} {n:Nat} {k:IntKind} {l:List Int} (h:w.ownsRow B e 1 v n (l.map (Value.int k))):zI w v k l:=by
 have h1:=Row.of_owns h
 have hl:l.length=n:=by have:=h.1;simpa using this
 unfold zI
 rw [hl];exact h1
end Go.Proofs.YtfalelkfhandfaaGreatDoor
