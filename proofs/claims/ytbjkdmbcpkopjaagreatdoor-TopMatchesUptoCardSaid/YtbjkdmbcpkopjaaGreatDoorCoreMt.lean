/- Small lemmas on worlds, strings and conversions that all walks of this seat use. They hold for this seat's program without any condition. -/
import Derived.Test.YtbjkdmbcpkopjaaGreatDoorProg
import Derived.WalkKit
import Derived.WalkSpells
import Derived.WalkLawsBesides
import Derived.Handy
import Derived.Outline
import Derived.Lib.Hide
import Derived.Lib.OthersKept
import Derived.Laws.AppendOwnNone
import Derived.Laws.BytesArg
namespace Go.Proofs.YtbjkdmbcpkopjaaGreatDoor
theorem Hd {p:Prop} (h:p):Go.RowKit.Hid p:=h
open Go.RowKit

theorem lA {α:Type _} {a b:List α}:(a++b).length=a.length+b.length:=List.length_append
theorem lC {α:Type _} {a:α} {b:List α}:(a::b).length=b.length+1:=rfl
theorem lN {α:Type _}:([]:List α).length=0:=rfl
theorem bE {α:Type _} [BEq α] [LawfulBEq α] {a b:α}:(a == b)=false↔a≠b:=beq_eq_false_iff_ne
theorem gE {α:Type _} {l:List α} {i:Nat} (h:i<l.length):l[i]?=some l[i]:=List.getElem?_eq_getElem h
theorem nR (n:Nat):n≤n:=Nat.le_refl n
theorem bR (g:Nat) (w:World):Below g w w:=Below.refl g w
theorem iN {c:Prop} {h:Decidable c} (hc:¬ c) {α:Sort _} {t e:α}:ite c t e=e:=if_neg hc
theorem iP {c:Prop} {h:Decidable c} (hc:c) {α:Sort _} {t e:α}:ite c t e=t:=if_pos hc
theorem gD {α:Type _} {l:List α} {i:Nat} {a:α}:l.getD i a=l[i]?.getD a:=List.getD_eq_getElem?_getD
theorem gM {α:Type _} {l:List α} {n:Nat} (h:n<l.length):l[n]∈l:=List.getElem_mem h
theorem xE {a b:Bool} (h:a=b):Ending.returned (.bool a)=.returned (.bool b):=by rw [h]
theorem zSz {a b:ByteArray} (h:a=b):Ending.returned (.string a)=.returned (.string b):=by rw [h]
theorem zFg {k:IntKind} {a b:Int} (h:a=b):Ending.returned (.int k a)=.returned (.int k b):=by rw [h]
theorem zFv {k l:IntKind} {a b c d:Int} (h:a=b) (g:c=d):Ending.returned (.tuple #[.int k a,.int l c])=.returned (.tuple #[.int k b,.int l d]):=by rw [h,g]

def iterLeft (k:Nat) (w:World):Nat:=match w.heap[k]? with
 | some (.stringIter s pos)=>s.size-pos
 | _=>0
theorem zX {w:World} {k:Nat} {s:ByteArray} {pos:Nat} (h:w.heap[k]?=some (.stringIter s pos)):iterLeft k w=s.size-pos:=by
 unfold iterLeft;rw [h]
theorem keeps {w w':World} (hb:Below w.heap.size w w') {k:Nat} {o:Obj} (h:w.heap[k]?=some o):w'.heap[k]?=some o:=by
 rw [hb.block k (Array.getElem?_eq_some_iff.1 h).1];exact h
theorem zC {w a b:World} (h:Below w.heap.size w a) (k:Below a.heap.size a b):Below w.heap.size w b:=h.trans (k.mono h.size)
theorem zG {w:World} {k:Nat} {o:Obj} (h:w.heap[k]?=some o):k<w.heap.size:=(Array.getElem?_eq_some_iff.1 h).1
section
variable {P:Program}
theorem yA {ops:Array Oper} {rest:List Oper} {o:Oper} {a:Act} {Q:Exit→Act→World→Prop} (w0:World) (C:Array Value) (e':TypeId) (hgd:o.guard=none) (s x:Operand) (t e:TypeId)
  (ho:o.op=.call { callee:=.builtin .append,args:=#[s,x],argTypes:=#[t,t] }) (ht:P.underlying t=some (.slice e))
  (base:Nat) {z:Value} {size bytes:Nat} (hinfo:(P.info? e).map (fun i=>(i.zero,i.size,i.bytes))=some (some z,size,bytes)) (hzs:z.cells.size=size) (hsz:0<size)
  (v:Value) (n:Nat) (xs:List Value) (hs:a.eval s=v) (hown:w0.ownsRow base e size v n xs)
  (m c:Nat) (hx:a.eval x=.slice (some ⟨w0.heap.size,0,none⟩) m c) (hl:C.size=m*size) (hm:0<m) (h1:∀ u∈C.toList,u.oneCell'=true)
  (h63:n+m≤140737488355328) (hbytes:(n+m)*bytes≤140737488355328) (hbase:base≤w0.heap.size)
  (h:∀ v' w',w'.ownsRow base e size v' (n+m) (xs++C.toList)→(w0.alloc (.cells C e')).grownBy w' v.ownBlock→v'≠.slice none 0 0→wpList P ops Q rest (a.put o.dst v') w') :
  wpList P ops Q (o::rest) a (w0.alloc (.cells C e')):=by
 obtain ⟨i,hi,hz0,hz1,hz2⟩:=info_parts hinfo;refine wpList_append_own (w:=w0.alloc (.cells C e')) hgd s x t ho base e i z size bytes ht hi hz0 hz1 hz2 hzs hsz v n xs hs (hown.alloc _) ⟨w0.heap.size,0,none⟩ m c C.toList hx (by simpa using hl) ?_ h1 ?_ hbytes (by simp;omega) ?_
 ·intro j u hj;have e1:(⟨w0.heap.size,0,none⟩:Addr).add j=⟨w0.heap.size,j,none⟩:=by simp [Addr.add];omega
  rw [e1,World.cell?_alloc_at _ _ _ _ rfl]
  simpa using hj
 ·unfold maxLen;omega
 ·intro v' w' g1 g2 g3;exact h v' w' g1 g2 (fun e=>by have:=(g3.1 e).2;omega)
end
theorem vU {w0 w':World} {o:Obj} {B:Nat} {a:World} {v:Value} {e:TypeId} {size n:Nat} {xs:List Value} (hb:Below B a w0) (hB:B≤w0.heap.size) (hown:w0.ownsRow B e size v n xs) (hg:(w0.alloc o).grownBy w' v.ownBlock):Below B a w' :=
 (hb.alloc hB o).grown hg (by simp;omega) (fun k hk=>(hown.lt k hk).1)
theorem zY {w w':World} {B:Nat} {v:Value} {e:TypeId} {size n:Nat} {xs:List Value} (h:w.ownsRow B e size v n xs) (hb:Below w.heap.size w w'):w'.ownsRow B e size v n xs:=by
 obtain ⟨h1,h2⟩:=h;refine ⟨h1,?_⟩;rcases h2 with h2 | ⟨g,cap,cur,hv,hg,hh,r⟩
 ·exact Or.inl h2
 ·exact Or.inr ⟨g,cap,cur,hv,hg,keeps hb hh,r⟩
theorem zO {w:World} {B:Nat} {v:Value} {e:TypeId} {size n:Nat} {xs:List Value} (h:w.ownsRow B e size v n xs):∃ a m c,v=.slice a m c:=by
 rcases h.2 with ⟨hv,_⟩ | ⟨g,cap,cur,hv,_⟩
 ·exact ⟨_,_,_,hv⟩
 ·exact ⟨_,_,_,hv⟩
theorem vV {w:World} {B B':Nat} {v:Value} {e:TypeId} {size n:Nat} {xs:List Value} (h:w.ownsRow B e size v n xs) (hB:B'≤B):w.ownsRow B' e size v n xs:=by
 obtain ⟨h1,h2⟩:=h;refine ⟨h1,?_⟩;rcases h2 with h2 | ⟨g,cap,cur,hv,hg,hh,r⟩
 ·exact Or.inl h2
 ·exact Or.inr ⟨g,cap,cur,hv,Nat.le_trans hB hg,hh,r⟩

def Row (w:World) (v:Value) (n sz:Nat) (cs:List Value):Prop :=
 cs.length=n*sz∧∃ a cap,v=.slice a n cap∧n≤cap∧(a=none→cap=0)∧(0<n→∃ b off,a=some ⟨b,off,none⟩∧b<w.heap.size∧∀ i,i<n*sz→w.cell? ⟨b,off+i,none⟩=cs[i]?)
theorem Row.below {w w':World} {v:Value} {n sz:Nat} {cs:List Value} (h:Row w v n sz cs) (hb:Below w.heap.size w w'):Row w' v n sz cs:=by
 obtain ⟨h1,a,cap,hv,hc,hz,h2⟩:=h;refine ⟨h1,a,cap,hv,hc,hz,fun hn=>?_⟩;obtain ⟨b,off,ha,hlt,hcell⟩:=h2 hn;exact ⟨b,off,ha,Nat.lt_of_lt_of_le hlt hb.size,fun i hi=>by rw [hb.cell (p:=⟨b,off+i,none⟩) hlt];exact hcell i hi⟩
theorem Row.of_owns {w:World} {B:Nat} {v:Value} {e:TypeId} {size n:Nat} {xs:List Value} (h:w.ownsRow B e size v n xs):Row w v n size xs:=by
 refine ⟨h.1,?_⟩;rcases h.2 with ⟨hv,hn⟩ | ⟨g,cap,cur,hv,hg,hh,hnc,_,hcs,htk⟩
 ·subst hn;exact ⟨none,0,hv,nR _,fun _=>rfl,fun h=>absurd h (by omega)⟩
 ·refine ⟨some ⟨g,0,none⟩,cap,hv,hnc,(by simp),fun _=>⟨g,0,rfl,zG hh,fun i hi=>?_⟩⟩;have hown:w.ownsRow B e size (.slice (some ⟨g,0,none⟩) n cap) n xs:=hv ▸ h;rw [Nat.zero_add];exact hown.cellAt i hi
theorem zQd {w:World} {B:Nat} {v:Value} {n:Nat} {xs:List Int} (h:w.ownsRow B 5 1 v n (xs.map (Value.int .u8))) :
  (convert 105 9 v).run Tryz.prog w=.ok (.string (strOfNums xs)) w:=by
 have hl:xs.length=n:=by have:=h.1;simpa using this
 rcases h.2 with ⟨hv,hn⟩ | ⟨g,cap,cur,hv,hg,hh,hnc,_,hcs,htk⟩
 ·subst hv;subst hn;have hx:xs=[]:=List.eq_nil_of_length_eq_zero hl;subst hx;exact run_convert_bytes_nil (P:=Tryz.prog) (w:=w) 105 5 Tryz.underlying105 Tryz.underlying5 0 0 9 Tryz.underlying9
 ·have hown:w.ownsRow B 5 1 (.slice (some ⟨g,0,none⟩) n cap) n (xs.map (Value.int .u8)):=hv ▸ h;subst hv;refine run_convert_bytes_arg _ 105 5 Tryz.underlying105 Tryz.underlying5 g 0 n cap xs hl (fun i hi=>?_) 9 Tryz.underlying9;rw [Nat.zero_add,hown.cellAt i (by omega)];simp [hl ▸ hi]
def zI (w:World) (v:Value) (k:IntKind) (l:List Int):Prop:=Row w v l.length 1 (l.map (Value.int k))
theorem zI.below {w w':World} {v:Value} {k:IntKind} {l:List Int} (h:zI w v k l) (hb:Below w.heap.size w w'):zI w' v k l:=Row.below h hb
theorem zI.open' {w:World} {v:Value} {k:IntKind} {l:List Int} (h:zI w v k l) :
  ∃ a cap,v=.slice a l.length cap∧l.length≤cap∧(0<l.length→∃ b off,a=some ⟨b,off,none⟩∧b<w.heap.size∧∀ i (hi:i<l.length),w.cell? ⟨b,off+i,none⟩=some (.int k l[i])):=by
 obtain ⟨_,a,cap,hv,hc,_,h2⟩:=h;refine ⟨a,cap,hv,hc,fun hn=>?_⟩;obtain ⟨b,off,ha,hlt,hcell⟩:=h2 hn;refine ⟨b,off,ha,hlt,fun i hi=>?_⟩;rw [hcell i (by omega)];simp [hi]
set_option linter.all false
open Go
theorem wI {z y:Int} (h:z=y∧-9223372036854775808≤z∧z<9223372036854775808):IntKind.i64.wrap z=y:=by rw [IntKind.wrap_i64];omega
theorem mB {P:Program} {f:FuncId} {args:Array Value} {w w0:World} {v:Ending} {Q:Ending→World→Prop} (h:Calls P f args w fun e w'=>e=v∧Below w.heap.size w w') (hb:Below w0.heap.size w0 w) (k:∀ w',RowKit.Hid (Below w0.heap.size w0 w')→Q v w'):Calls P f args w Q :=
 h.mono fun e w' g=>by obtain ⟨rfl,g⟩:=g;exact k w' (Hd (zC hb g))
end Go.Proofs.YtbjkdmbcpkopjaaGreatDoor
namespace Go.Proofs.YtbjkdmbcpkopjaaGreatDoor
set_option linter.all false

abbrev Prt:=Nat×Int×ByteArray
def zD:List Prt→Option (List Nat)
 | []=>some []
 | p::r=>match zD r with
  | none=>none
  | some ts=>if 0≤p.2.1∧p.2.1≤(ts.length:Int) then some ((1+(ts.take p.2.1.toNat).sum)::ts.drop p.2.1.toNat) else none
theorem kE:zD []=some []:=rfl
theorem gF {p:Prt} {r:List Prt} {ts:List Nat} (h:zD r=some ts) (h0:0≤p.2.1) (h1:p.2.1≤(ts.length:Int)):zD (p::r)=some ((1+(ts.take p.2.1.toNat).sum)::ts.drop p.2.1.toNat):=by
 rw [zD,h];exact iP ⟨h0,h1⟩
theorem zKl {p:Prt} {r:List Prt} {ts:List Nat} (h:zD r=some ts) (h0:¬ (0≤p.2.1∧p.2.1≤(ts.length:Int))):zD (p::r)=none:=by
 rw [zD,h];exact iN h0
theorem zSs {p:Prt} {r:List Prt} (h:zD r=none):zD (p::r)=none:=by rw [zD,h]
theorem jT {p:Prt} {r:List Prt} {q:List Nat} (h:zD (p::r)=some q):∃ ts,zD r=some ts∧0≤p.2.1∧p.2.1≤(ts.length:Int)∧q=(1+(ts.take p.2.1.toNat).sum)::ts.drop p.2.1.toNat:=by
 cases hr:zD r with
 | none=>rw [zSs hr] at h;cases h
 | some ts =>
  by_cases hc:0≤p.2.1∧p.2.1≤(ts.length:Int)
  ·rw [gF hr hc.1 hc.2] at h;exact ⟨ts,rfl,hc.1,hc.2,(Option.some.inj h).symm⟩
  ·rw [zKl hr hc] at h;cases h
theorem vL:∀ (l:List Nat) (a b:Nat),(l.take (a+b)).sum=(l.take a).sum+((l.drop a).take b).sum
 | [],a,b=>by simp
 | x::l,0,b=>by simp
 | x::l,a+1,b=>by
  rw [show a+1+b=(a+b)+1 by omega,List.take_succ_cons,List.take_succ_cons,List.drop_succ_cons,List.sum_cons,List.sum_cons,vL l a b];omega
theorem zWm (l:List Nat) (k:Nat):l.sum=(l.take k).sum+(l.drop k).sum:=by
 conv=>lhs;rw [← List.take_append_drop k l]
 rw [List.sum_append]
theorem zU:∀ {l:List Prt} {ts:List Nat},zD l=some ts→ts.sum=l.length∧ts.length≤l.length∧∀ t∈ts,0<t
 | [],ts,h=>by rw [kE] at h;cases h;simp
 | p::r,ts,h=>by
  obtain ⟨us,h1,h2,h3,rfl⟩:=jT h;obtain ⟨g1,g2,g3⟩:=zU h1;have hs:=zWm us p.2.1.toNat;refine ⟨by rw [List.sum_cons,lC];omega,by rw [lC,lC,List.length_drop];omega,fun t ht=>?_⟩;rcases List.mem_cons.1 ht with rfl | ht
  ·omega
  ·exact g3 t (List.mem_of_mem_drop ht)
theorem zSt {p:Prt} {r:List Prt} {q:List Nat} (h:zD (p::r)=some q):∃ ts,zD r=some ts:=by
 obtain ⟨ts,h1,_⟩:=jT h;exact ⟨ts,h1⟩
theorem gG:∀ {l:List Prt} {ts:List Nat},zD l=some ts→∀ i,∃ us,zD (l.drop i)=some us
 | [],ts,h,i=>⟨[],by rw [List.drop_nil];rfl⟩
 | p::r,ts,h,0=>⟨ts,h⟩
 | p::r,ts,h,i+1=>by
  obtain ⟨us,h1⟩:=zSt h;rw [List.drop_succ_cons];exact gG h1 i
theorem kS:∀ {l:List Prt} {ts:List Nat} (k:Nat),zD l=some ts→k≤ts.length→zD (l.drop (ts.take k).sum)=some (ts.drop k)
 | [],ts,k,h,hk=>by
  rw [kE] at h;cases h;simp at hk;subst hk;rfl
 | p::r,ts,0,h,hk=>by simpa using h
 | p::r,ts,k+1,h,hk=>by
  obtain ⟨us,h1,h2,h3,rfl⟩:=jT h;rw [lC,List.length_drop] at hk;rw [List.take_succ_cons,List.sum_cons,List.drop_succ_cons,List.drop_drop];have h4:=kS (p.2.1.toNat+k) h1 (by omega);rw [vL] at h4;rw [show 1+(us.take p.2.1.toNat).sum+((us.drop p.2.1.toNat).take k).sum=((us.take p.2.1.toNat).sum+((us.drop p.2.1.toNat).take k).sum)+1 by omega,List.drop_succ_cons];exact h4
def headSize (l:List Prt):Nat:=match zD l with
 | some (t::_)=>t
 | _=>0
theorem yW {l:List Prt} {t:Nat} {ts:List Nat} (h:zD l=some (t::ts)):headSize l=t:=by unfold headSize;rw [h]
def zB (l:List Prt) (i:Nat):Nat:=i+headSize (l.drop i)
def zV (l:List Prt):Bool:=match zD l with
 | some [_]=>true
 | _=>false
theorem jU {l:List Prt}:zV l=true↔zD l=some [l.length]:=by
 unfold zV;constructor
 ·intro h;split at h
  ·rename_i x hx;have:=(zU hx).1;simp at this;rw [hx,this]
  ·cases h
 ·intro h;rw [h]
def endR (len:Nat):List Prt→Nat→Nat→Option Nat
 | _,0,i=>some i
 | [],_+1,_=>none
 | p::r,n+1,i=>if 0≤p.2.1∧p.2.1≤(len:Int) then endR len r (n+p.2.1.toNat) (i+1) else none
theorem fB (len:Nat) (l:List Prt) (i:Nat):endR len l 0 i=some i:=by cases l <;> rfl
theorem fC (len:Nat):∀ {l:List Prt} {ts:List Nat},zD l=some ts→l.length≤len→∀ n i,endR len l n i=if n≤ts.length then some (i+(ts.take n).sum) else none
 | [],ts,h,_,n,i=>by
  rw [kE] at h;cases h;cases n with
  | zero=>rw [fB];simp
  | succ n=>rw [endR,iN (by simp)]
 | p::r,ts,h,hl,0,i=>by rw [fB];simp
 | p::r,ts,h,hl,n+1,i=>by
  obtain ⟨us,h1,h2,h3,rfl⟩:=jT h;rw [lC] at hl;have hus:=(zU h1).2.1;rw [endR,iP ⟨h2,by omega⟩,fC len h1 (by omega)];rw [lC,List.length_drop];by_cases hc:n+p.2.1.toNat≤us.length
  ·rw [iP hc,iP (by omega),List.take_succ_cons,List.sum_cons,Nat.add_comm n,vL]
   congr 1;omega
  ·rw [iN hc,iN (by omega)]
theorem zFm (len:Nat):∀ (l:List Prt) (n i e:Nat),endR len l n i=some e→i≤e∧e≤i+l.length
 | l,0,i,e,h=>by rw [fB] at h;cases h;omega
 | [],n+1,i,e,h=>by rw [endR] at h;cases h
 | p::r,n+1,i,e,h=>by
  rw [endR] at h;split at h
  ·have:=zFm len r _ _ _ h;rw [lC];omega
  ·cases h
theorem kI (len:Nat):∀ (l:List Prt) (n i e:Nat),endR len l n i=some e→∃ ts,zD (l.take (e-i))=some ts∧ts.length=n
 | l,0,i,e,h=>by rw [fB] at h;cases h;rw [Nat.sub_self,List.take_zero];exact ⟨[],rfl,rfl⟩
 | [],n+1,i,e,h=>by rw [endR] at h;cases h
 | p::r,n+1,i,e,h=>by
  rw [endR] at h;split at h
  ·rename_i hc;obtain ⟨us,h1,h2⟩:=kI len r _ _ _ h;have hle:=zFm len r _ _ _ h;rw [show e-i=(e-(i+1))+1 by omega,List.take_succ_cons,gF h1 hc.1 (by omega)];exact ⟨_,rfl,by rw [lC,List.length_drop];omega⟩
  ·cases h
theorem zWn {l:List Prt}:(0<l.length∧endR l.length l 1 0=some l.length)↔zV l=true:=by
 rw [jU];constructor
 ·rintro ⟨_,h⟩;obtain ⟨ts,h1,h2⟩:=kI _ _ _ _ _ h;rw [Nat.sub_zero,List.take_length] at h1;have hs:=(zU h1).1;match ts,h2 with
  | [t],_=>simp at hs;rw [h1,hs]
 ·intro h;have hs:=(zU h).2.2 l.length (by simp);refine ⟨hs,?_⟩;rw [fC _ h (nR _),iP (by simp)];simp
def treesF (l:List Prt):Nat→Nat→Nat→Int
 | 0,_,_=>-1
 | f+1,n,at'=>if at'<l.length then (match endR l.length (l.drop at') 1 at' with
   | some e=>treesF l f (n+1) e
   | none=>-1) else (n:Int)
theorem kT {a b:List Prt} {us ts:List Nat} (h:zD a=some us) (g:zD b=some ts):zD (a++b)=some (us++ts):=by
 induction a generalizing us with
 | nil=>rw [kE] at h;cases h;simpa using g
 | cons p r ih =>
  obtain ⟨vs,v1,v2,v3,rfl⟩:=jT h;have:=ih v1;rw [List.cons_append,gF this v2 (by rw [lA];omega),List.take_append_of_le_length (by omega),List.drop_append_of_le_length (by omega)];rfl
theorem zEz (l:List Prt):∀ (f n at':Nat),at'≤l.length→l.length-at'<f→treesF l f n at'=match zD (l.drop at') with
   | some ts=>((n+ts.length:Nat):Int)
   | none=>-1
 | 0,_,_,_,h=>by omega
 | f+1,n,at',hle,hf=>by
  rw [treesF];by_cases hlt:at'<l.length
  ·rw [iP hlt];cases hr:zD (l.drop at') with
   | some ts =>
    have hs:=zU hr;rw [List.length_drop] at hs;match ts with
    | []=>simp at hs;omega
    | t::ts =>
     have ht:=hs.2.2 t (by simp);have hsum:=hs.1;rw [List.sum_cons] at hsum;rw [fC l.length hr (by rw [List.length_drop];omega),iP (by simp)];simp only [List.take_succ_cons,List.take_zero,List.sum_cons,List.sum_nil,Nat.add_zero];have hk:=kS 1 hr (by simp);simp only [List.take_succ_cons,List.take_zero,List.sum_cons,List.sum_nil,Nat.add_zero,List.drop_succ_cons,List.drop_zero,List.drop_drop] at hk;rw [zEz l f (n+1) (at'+t) (by omega) (by omega),hk];simp only [lC]
     congr 1;omega
   | none =>
    simp only [];cases he:endR l.length (l.drop at') 1 at' with
    | none=>rfl
    | some e =>
     simp only [];have hle2:=zFm _ _ _ _ _ he;rw [List.length_drop] at hle2;obtain ⟨us,u1,u2⟩:=kI _ _ _ _ _ he;have hue:=(zU u1).2.1;rw [List.length_take,List.length_drop,u2] at hue;rw [zEz l f (n+1) e (by omega) (by omega)];cases hd:zD (l.drop e) with
     | none=>rfl
     | some ts =>
      exfalso;have h2:zD ((l.drop at').drop (e-at'))=some ts:=by rw [List.drop_drop,show at'+(e-at')=e by omega];exact hd
      have:=kT u1 h2;rw [List.take_append_drop,hr] at this;cases this
  ·rw [iN hlt,List.drop_of_length_le (by omega),kE];simp
def jL (l:List Prt):Int:=match zD l with
 | some ts=>(ts.length:Int)
 | none=>-1
def starts (i:Nat):List Nat→List Nat
 | []=>[]
 | t::ts=>i::starts (i+t) ts
theorem yX:∀ (ts:List Nat) (i:Nat),(starts i ts).length=ts.length
 | [],_=>rfl
 | t::ts,i=>by rw [starts,lC,lC,yX]
theorem zFa:∀ (ts:List Nat) (i k:Nat),k≤ts.length→(starts i ts).drop k=starts (i+(ts.take k).sum) (ts.drop k)
 | ts,i,0,_=>by simp
 | [],i,k+1,h=>by simp at h
 | t::ts,i,k+1,h=>by
  rw [starts,List.drop_succ_cons,zFa ts (i+t) k (by simpa using h),List.take_succ_cons,List.sum_cons,List.drop_succ_cons,Nat.add_assoc]
theorem zBz:∀ (ts:List Nat) (i k:Nat),k<ts.length→(starts i ts).getD k 0=i+(ts.take k).sum
 | t::ts,i,0,_=>by simp [starts]
 | t::ts,i,k+1,h=>by
  rw [starts,List.getD_cons_succ,zBz ts (i+t) k (by simpa using h),List.take_succ_cons,List.sum_cons,Nat.add_assoc]
theorem zPo {p:Prt} {ts:List Nat} (i:Nat) (h1:p.2.1≤(ts.length:Int)):i::(starts (i+1) ts).drop p.2.1.toNat=starts i ((1+(ts.take p.2.1.toNat).sum)::ts.drop p.2.1.toNat):=by
 rw [starts,zFa _ _ _ (by omega)]
 congr 1
 congr 1
 omega
open Go.RowKit
def TokRow (w:World) (v:Value) (l:List (Int×Nat×Nat)):Prop :=
 ∃ a cap,v=.slice a l.length cap∧l.length≤cap∧(0<l.length→∃ b,a=some ⟨b,0,none⟩∧b<w.heap.size∧∀ i (hi:i<l.length),w.cell? ⟨b,i*3,none⟩=some (.int .u8 l[i].1)∧w.cell? ⟨b,i*3+1,none⟩=some (.int .i64 (l[i].2.1:Nat))∧w.cell? ⟨b,i*3+2,none⟩=some (.int .i64 (l[i].2.2:Nat)))
theorem TokRow.below {w w':World} {v:Value} {l:List (Int×Nat×Nat)} (h:TokRow w v l) (hb:Below w.heap.size w w'):TokRow w' v l:=by
 obtain ⟨a,cap,hv,hc,h2⟩:=h;refine ⟨a,cap,hv,hc,fun hpos=>?_⟩;obtain ⟨b,ha,hbl,hcell⟩:=h2 hpos;refine ⟨b,ha,Nat.lt_of_lt_of_le hbl hb.size,fun i hi=>?_⟩;have:=hcell i hi;exact ⟨by rw [hb.cell (p:=⟨b,i*3,none⟩) hbl];exact this.1,by rw [hb.cell (p:=⟨b,i*3+1,none⟩) hbl];exact this.2.1,by rw [hb.cell (p:=⟨b,i*3+2,none⟩) hbl];exact this.2.2⟩
theorem TokRow.at {w w':World} {a:Option Addr} {n cap:Nat} {l:List (Int×Nat×Nat)} (h:TokRow w (.slice a n cap) l) (hb:Below w.heap.size w w') {i:Nat} (hi:i<l.length) :
  ∃ b,a=some ⟨b,0,none⟩∧n=l.length∧l.length≤cap∧w'.cell? ⟨b,i*3,none⟩=some (.int .u8 l[i].1)∧w'.cell? ⟨b,i*3+1,none⟩=some (.int .i64 (l[i].2.1:Nat))∧w'.cell? ⟨b,i*3+2,none⟩=some (.int .i64 (l[i].2.2:Nat)):=by
 obtain ⟨a',cap',hv,hc,hcells⟩:=h.below hb;simp only [Value.slice.injEq] at hv;obtain ⟨rfl,rfl,rfl⟩:=hv;obtain ⟨b,hb',_,hcell⟩:=hcells (by omega);have:=hcell i hi;exact ⟨b,hb',rfl,hc,this.1,this.2.1,this.2.2⟩
def NewV (B:Nat) (v:Value):Prop:=∀ b,v.ownBlock=some b→B≤b
theorem NewV.mono {B B':Nat} {v:Value} (h:NewV B v) (hb:B'≤B):NewV B' v:=fun b e=>Nat.le_trans hb (h b e)
theorem NewV.of_owns {w:World} {B:Nat} {v:Value} {e:TypeId} {size n:Nat} {xs:List Value} (h:w.ownsRow B e size v n xs):NewV B v:=fun b eb=>(h.lt b eb).1
theorem NewV.none (B:Nat):NewV B (.slice none 0 0):=fun b e=>by simp [Value.ownBlock] at e
theorem vP {w:World} {a:Addr} {b i:Nat} (h:b≠a.block) (u:Value):(w.setCell a u).cell? ⟨b,i,none⟩=w.cell? ⟨b,i,none⟩:=by
 simp only [World.cell?,heap_setCell_other _ _ _ _ h]
theorem TokRow.setCell {w:World} {v:Value} {l:List (Int×Nat×Nat)} (h:TokRow w v l) {a:Addr} (ha:v.ownBlock≠some a.block) (u:Value):TokRow (w.setCell a u) v l:=by
 obtain ⟨a',cap,hv,hc,h2⟩:=h;refine ⟨a',cap,hv,hc,fun hpos=>?_⟩;obtain ⟨b,hb,hbl,hcell⟩:=h2 hpos;have hne:b≠a.block:=fun e=>ha (by rw [hv,hb,← e];rfl)
 refine ⟨b,hb,by simpa using hbl,fun i hi=>?_⟩;have:=hcell i hi;exact ⟨by rw [vP hne];exact this.1,by rw [vP hne];exact this.2.1,by rw [vP hne];exact this.2.2⟩
theorem Row.setCell {w:World} {v:Value} {n sz:Nat} {cs:List Value} (h:Row w v n sz cs) {a:Addr} (ha:v.ownBlock≠some a.block) (u:Value):Row (w.setCell a u) v n sz cs:=by
 obtain ⟨h1,a',cap,hv,hc,hz,h2⟩:=h;refine ⟨h1,a',cap,hv,hc,hz,fun hpos=>?_⟩;obtain ⟨b,off,hb,hbl,hcell⟩:=h2 hpos;have hne:b≠a.block:=fun e=>ha (by rw [hv,hb,← e];rfl)
 exact ⟨b,off,hb,by simpa using hbl,fun i hi=>by rw [vP hne];exact hcell i hi⟩
theorem zI.setCell {w:World} {v:Value} {k:IntKind} {l:List Int} (h:zI w v k l) {a:Addr} (ha:v.ownBlock≠some a.block) (u:Value):zI (w.setCell a u) v k l:=Row.setCell h ha u
theorem NewV.ne {B:Nat} {v:Value} (h:NewV B v) {g:Nat} (hg:g<B):v.ownBlock≠some g:=fun e=>by have:=h g e;omega
theorem TokRow.none (w:World):TokRow w (.slice none 0 0) []:=⟨Option.none,0,rfl,nR _,fun h=>absurd h (by simp)⟩
theorem zI.none (w:World) (k:IntKind):zI w (.slice none 0 0) k []:=⟨rfl,Option.none,0,rfl,nR _,fun _=>rfl,fun h=>absurd h (by simp)⟩
theorem jP {f : FuncId} {fn : Func} {c : Code} (hf : Tryz.prog.funcs[f]? = some fn) (hname : (fn.name == "runtime.NumGoroutine") = false) (hb : fn.body = some c) (args : Array Value) (w : World) :
  (callFunc f args).run Tryz.prog w=.ok (.enter f args) w:=by
 have h1 : fn.name ≠ "runtime.NumGoroutine" := by simpa using hname
 simp [callFunc,hf,h1,hb]
end Go.Proofs.YtbjkdmbcpkopjaaGreatDoor
namespace Go.Proofs.YtbjkdmbcpkopjaaGreatDoor
set_option linter.all false

theorem zMf {l:List Prt} {us:List Nat} (h:zD l=some us) {i:Nat} (hi:i<l.length):∃ t ts,zD (l.drop i)=some (t::ts)∧0<t∧zB l i=i+t∧i+t≤l.length:=by
 obtain ⟨vs,hv⟩:=gG h i;have hs:=zU hv;rw [List.length_drop] at hs;match vs with
 | []=>simp at hs;omega
 | t::ts =>
  have hp:=hs.2.2 t (by simp);have h1:=hs.1;rw [List.sum_cons] at h1;exact ⟨t,ts,hv,hp,by unfold zB;rw [yW hv],by omega⟩
theorem zIh {l:List Prt} {us:List Nat} (h:zD l=some us) {i:Nat} (hi:i<l.length):endR l.length (l.drop i) 1 i=some (zB l i):=by
 obtain ⟨t,ts,h1,h2,h3,h4⟩:=zMf h hi;rw [fC l.length h1 (by rw [List.length_drop];omega),iP (by simp),h3];simp
theorem zP {l:List Prt} {us:List Nat} (h:zD l=some us) {i:Nat} (hi:i<l.length):i<zB l i∧zB l i≤l.length:=by
 obtain ⟨t,ts,h1,h2,h3,h4⟩:=zMf h hi;omega
theorem zJ {l:List Prt} (h:zV l=true):zD l=some [l.length]:=jU.1 h
theorem xT {l:List Prt} (h:zV l=true):0<l.length∧zB l 0=l.length:=by
 have h1:=zJ h;have:=(zU h1).2.2 l.length (by simp);refine ⟨this,?_⟩;unfold zB;rw [List.drop_zero,yW h1];omega
def upI (l:List Prt) (i:Nat):Nat→Int
 | 0=>-1
 | k+1=>if i<zB l k then (k:Int) else upI l i k
def kidsB (l:List Prt) (i:Nat):List Nat:=match zD (l.drop (i+1)),l[i]? with
 | some ts,some p=>(starts (i+1) ts).take p.2.1.toNat
 | _,_=>[]
theorem zCa {l:List Prt} {us:List Nat} (h:zD l=some us) {i:Nat} (hi:i<l.length) :
  ∃ ts q,zD (l.drop (i+1))=some ts∧(l[i]).2.1=((q:Nat):Int)∧q≤ts.length∧zB l i=i+1+(ts.take q).sum∧kidsB l i=(starts (i+1) ts).take q:=by
 obtain ⟨vs,hv⟩:=gG h i;rw [List.drop_eq_getElem_cons hi] at hv;obtain ⟨ts,h1,h2,h3,h4⟩:=jT hv;refine ⟨ts,(l[i]).2.1.toNat,h1,by omega,by omega,?_,?_⟩
 ·unfold zB;rw [List.drop_eq_getElem_cons hi];subst h4;rw [yW hv];omega
 ·unfold kidsB;rw [h1,gE hi]
theorem fD {l:List Prt} {us:List Nat} (h:zD l=some us) {i:Nat} {ts:List Nat} {q n:Nat} (hts:zD (l.drop (i+1))=some ts) (hq:q≤ts.length) (hn:n<q) :
  i+1+(ts.take n).sum<l.length∧zB l (i+1+(ts.take n).sum)=i+1+(ts.take (n+1)).sum∧(starts (i+1) ts).take (n+1)=(starts (i+1) ts).take n++[i+1+(ts.take n).sum]∧(ts.take n).sum<(ts.take q).sum∧(ts.take n).sum<(ts.take (n+1)).sum∧(ts.take (n+1)).sum≤(ts.take q).sum:=by
 have hk:=kS n hts (by omega);rw [List.drop_drop] at hk;have hd:ts.drop n=ts[n]::ts.drop (n+1):=List.drop_eq_getElem_cons (by omega);have hsum:(ts.take (n+1)).sum=(ts.take n).sum+ts[n]:=by rw [List.take_succ_eq_append_getElem (by omega),List.sum_append];simp
 have hpos:=(zU hts).2.2 ts[n] (gM (by omega));have hh:=yW (hk.trans (congrArg some hd));have h1:=(zU hk).1;rw [hd,List.sum_cons,List.length_drop] at h1;refine ⟨by omega,by unfold zB;rw [hh,hsum];omega,?_,?_⟩
 ·have hz:=yX ts (i+1);rw [List.take_succ_eq_append_getElem (by omega)];have:=zBz ts (i+1) n (by omega);rw [gD,gE (by omega)] at this;simp only [Option.getD_some] at this;rw [this]
 refine ⟨?_,by omega,?_⟩
 ·have:=vL ts (n+1) (q-(n+1));rw [show n+1+(q-(n+1))=q by omega] at this;omega
 ·have:=vL ts (n+1) (q-(n+1));rw [show n+1+(q-(n+1))=q by omega] at this;omega
end Go.Proofs.YtbjkdmbcpkopjaaGreatDoor
