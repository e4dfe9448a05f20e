/- Small lemmas on worlds, strings and conversions that all walks of this seat use. They hold for this seat's program without any condition. -/
import Derived.Test.YtmklemelgdilkaaGreatDoorProg
import Derived.WalkKit
import Derived.WalkSpells
import Derived.WalkLawsBesides
import Derived.Handy
import Derived.Outline
import Derived.Lib.Hide
import Derived.Lib.OthersKept
import Derived.Laws.AppendOwnNone
import Derived.Laws.BytesArg
namespace Go.Proofs.YtmklemelgdilkaaGreatDoor
theorem Hd {p:Prop} (h:p):Go.RowKit.Hid p:=h
open Go.RowKit

theorem lit_cell (w:World) (C:Array Value) (e:TypeId) (xs:List Int) (h:C=(xs.map (Value.int .u8)).toArray) (i:Nat) (hi:i<xs.length) :
  (w.alloc (.cells C e)).cell? ⟨w.heap.size,0+i,none⟩=some (.int .u8 (xs.getD i 0)):=by
 subst h
 rw [World.cell?_alloc_at _ _ _ _ rfl]
 simp [hi]
theorem conv_lit (w:World) (C:Array Value) (xs:List Int) (n c:Nat) (h:C=(xs.map (Value.int .u8)).toArray) (hn:xs.length=n) :
  (convert 144 9 (.slice (some ⟨w.heap.size,0,none⟩) n c)).run Tryz.prog (w.alloc (.cells C 5))=.ok (.string (strOfNums xs)) (w.alloc (.cells C 5)):=by
 refine run_convert_bytes_arg _ 144 5 Tryz.underlying144 Tryz.underlying5 _ 0 n c xs hn (fun i hi=>?_) 9 Tryz.underlying9
 exact lit_cell w C 5 xs h i (by omega)
theorem ret_bool {a b:Bool} (h:a=b):Ending.returned (.bool a)=.returned (.bool b):=by rw [h]
theorem ret_str {a b:ByteArray} (h:a=b):Ending.returned (.string a)=.returned (.string b):=by rw [h]
theorem ret_int {k:IntKind} {a b:Int} (h:a=b):Ending.returned (.int k a)=.returned (.int k b):=by rw [h]
theorem ret_ints {k l:IntKind} {a b c d:Int} (h:a=b) (g:c=d):Ending.returned (.tuple #[.int k a,.int l c])=.returned (.tuple #[.int k b,.int l d]):=by rw [h,g]

def iterLeft (k:Nat) (w:World):Nat:=match w.heap[k]? with
 | some (.stringIter s pos)=>s.size-pos
 | _=>0
theorem iterLeft_of {w:World} {k:Nat} {s:ByteArray} {pos:Nat} (h:w.heap[k]?=some (.stringIter s pos)):iterLeft k w=s.size-pos:=by
 unfold iterLeft;rw [h]
theorem keeps {w w':World} (hb:Below w.heap.size w w') {k:Nat} {o:Obj} (h:w.heap[k]?=some o):w'.heap[k]?=some o:=by
 rw [hb.block k (Array.getElem?_eq_some_iff.1 h).1];exact h
theorem bthen {w a b:World} (h:Below w.heap.size w a) (k:Below a.heap.size a b):Below w.heap.size w b:=h.trans (k.mono h.size)
theorem keeps_lt {w:World} {k:Nat} {o:Obj} (h:w.heap[k]?=some o):k<w.heap.size:=(Array.getElem?_eq_some_iff.1 h).1
section
variable {P:Program}
theorem wpList_append_lit {ops:Array Oper} {rest:List Oper} {o:Oper} {a:Act} {Q:Exit→Act→World→Prop} (w0:World) (C:Array Value) (e':TypeId) (hgd:o.guard=none) (s x:Operand) (t e:TypeId)
  (ho:o.op=.call { callee:=.builtin .append,args:=#[s,x],argTypes:=#[t,t] }) (ht:P.underlying t=some (.slice e))
  (base:Nat) {z:Value} {size bytes:Nat} (hinfo:(P.info? e).map (fun i=>(i.zero,i.size,i.bytes))=some (some z,size,bytes)) (hzs:z.cells.size=size) (hsz:0<size)
  (v:Value) (n:Nat) (xs:List Value) (hs:a.eval s=v) (hown:w0.ownsRow base e size v n xs)
  (m c:Nat) (hx:a.eval x=.slice (some ⟨w0.heap.size,0,none⟩) m c) (hl:C.size=m*size) (hm:0<m) (h1:∀ u∈C.toList,u.oneCell'=true)
  (h63:n+m≤140737488355328) (hbytes:(n+m)*bytes≤140737488355328) (hbase:base≤w0.heap.size)
  (h:∀ v' w',w'.ownsRow base e size v' (n+m) (xs++C.toList)→(w0.alloc (.cells C e')).grownBy w' v.ownBlock→v'≠.slice none 0 0→wpList P ops Q rest (a.put o.dst v') w') :
  wpList P ops Q (o::rest) a (w0.alloc (.cells C e')):=by
 obtain ⟨i,hi,hz0,hz1,hz2⟩:=info_parts hinfo
 refine wpList_append_own (w:=w0.alloc (.cells C e')) hgd s x t ho base e i z size bytes ht hi hz0 hz1 hz2 hzs hsz v n xs hs (hown.alloc _) ⟨w0.heap.size,0,none⟩ m c C.toList hx (by simpa using hl) ?_ h1 ?_ hbytes (by simp;omega) ?_
 ·intro j u hj
  have e1:(⟨w0.heap.size,0,none⟩:Addr).add j=⟨w0.heap.size,j,none⟩:=by simp [Addr.add];omega
  rw [e1,World.cell?_alloc_at _ _ _ _ rfl]
  simpa using hj
 ·unfold maxLen;omega
 ·intro v' w' g1 g2 g3
  exact h v' w' g1 g2 (fun e=>by have:=(g3.1 e).2;omega)
end
theorem grown_below {w0 w':World} {o:Obj} {B:Nat} {a:World} {v:Value} {e:TypeId} {size n:Nat} {xs:List Value} (hb:Below B a w0) (hB:B≤w0.heap.size) (hown:w0.ownsRow B e size v n xs) (hg:(w0.alloc o).grownBy w' v.ownBlock):Below B a w' :=
 (hb.alloc hB o).grown hg (by simp;omega) (fun k hk=>(hown.lt k hk).1)
theorem owns_below {w w':World} {B:Nat} {v:Value} {e:TypeId} {size n:Nat} {xs:List Value} (h:w.ownsRow B e size v n xs) (hb:Below w.heap.size w w'):w'.ownsRow B e size v n xs:=by
 obtain ⟨h1,h2⟩:=h
 refine ⟨h1,?_⟩
 rcases h2 with h2 | ⟨g,cap,cur,hv,hg,hh,r⟩
 ·exact Or.inl h2
 ·exact Or.inr ⟨g,cap,cur,hv,hg,keeps hb hh,r⟩
theorem owns_slice {w:World} {B:Nat} {v:Value} {e:TypeId} {size n:Nat} {xs:List Value} (h:w.ownsRow B e size v n xs):∃ a m c,v=.slice a m c:=by
 rcases h.2 with ⟨hv,_⟩ | ⟨g,cap,cur,hv,_⟩
 ·exact ⟨_,_,_,hv⟩
 ·exact ⟨_,_,_,hv⟩
theorem owns_mono {w:World} {B B':Nat} {v:Value} {e:TypeId} {size n:Nat} {xs:List Value} (h:w.ownsRow B e size v n xs) (hB:B'≤B):w.ownsRow B' e size v n xs:=by
 obtain ⟨h1,h2⟩:=h
 refine ⟨h1,?_⟩
 rcases h2 with h2 | ⟨g,cap,cur,hv,hg,hh,r⟩
 ·exact Or.inl h2
 ·exact Or.inr ⟨g,cap,cur,hv,Nat.le_trans hB hg,hh,r⟩

def Row (w:World) (v:Value) (n sz:Nat) (cs:List Value):Prop :=
 cs.length=n*sz∧∃ a cap,v=.slice a n cap∧n≤cap∧(a=none→cap=0)∧(0<n→∃ b off,a=some ⟨b,off,none⟩∧b<w.heap.size∧∀ i,i<n*sz→w.cell? ⟨b,off+i,none⟩=cs[i]?)
theorem Row.below {w w':World} {v:Value} {n sz:Nat} {cs:List Value} (h:Row w v n sz cs) (hb:Below w.heap.size w w'):Row w' v n sz cs:=by
 obtain ⟨h1,a,cap,hv,hc,hz,h2⟩:=h
 refine ⟨h1,a,cap,hv,hc,hz,fun hn=>?_⟩
 obtain ⟨b,off,ha,hlt,hcell⟩:=h2 hn
 exact ⟨b,off,ha,Nat.lt_of_lt_of_le hlt hb.size,fun i hi=>by rw [hb.cell (p:=⟨b,off+i,none⟩) hlt];exact hcell i hi⟩
theorem Row.of_owns {w:World} {B:Nat} {v:Value} {e:TypeId} {size n:Nat} {xs:List Value} (h:w.ownsRow B e size v n xs):Row w v n size xs:=by
 refine ⟨h.1,?_⟩
 rcases h.2 with ⟨hv,hn⟩ | ⟨g,cap,cur,hv,hg,hh,hnc,_,hcs,htk⟩
 ·subst hn;exact ⟨none,0,hv,Nat.le_refl _,fun _=>rfl,fun h=>absurd h (by omega)⟩
 ·refine ⟨some ⟨g,0,none⟩,cap,hv,hnc,(by simp),fun _=>⟨g,0,rfl,keeps_lt hh,fun i hi=>?_⟩⟩
  have hown:w.ownsRow B e size (.slice (some ⟨g,0,none⟩) n cap) n xs:=hv ▸ h
  rw [Nat.zero_add]
  exact hown.cellAt i hi
theorem conv_owned {w:World} {B:Nat} {v:Value} {n:Nat} {xs:List Int} (h:w.ownsRow B 5 1 v n (xs.map (Value.int .u8))) :
  (convert 144 9 v).run Tryz.prog w=.ok (.string (strOfNums xs)) w:=by
 have hl:xs.length=n:=by have:=h.1;simpa using this
 rcases h.2 with ⟨hv,hn⟩ | ⟨g,cap,cur,hv,hg,hh,hnc,_,hcs,htk⟩
 ·subst hv;subst hn
  have hx:xs=[]:=List.eq_nil_of_length_eq_zero hl
  subst hx
  exact run_convert_bytes_nil (P:=Tryz.prog) (w:=w) 144 5 Tryz.underlying144 Tryz.underlying5 0 0 9 Tryz.underlying9
 ·have hown:w.ownsRow B 5 1 (.slice (some ⟨g,0,none⟩) n cap) n (xs.map (Value.int .u8)):=hv ▸ h
  subst hv
  refine run_convert_bytes_arg _ 144 5 Tryz.underlying144 Tryz.underlying5 g 0 n cap xs hl (fun i hi=>?_) 9 Tryz.underlying9
  rw [Nat.zero_add,hown.cellAt i (by omega)]
  simp [hl ▸ hi]
def RowInts (w:World) (v:Value) (k:IntKind) (l:List Int):Prop:=Row w v l.length 1 (l.map (Value.int k))
theorem RowInts.below {w w':World} {v:Value} {k:IntKind} {l:List Int} (h:RowInts w v k l) (hb:Below w.heap.size w w'):RowInts w' v k l:=Row.below h hb
theorem RowInts.open' {w:World} {v:Value} {k:IntKind} {l:List Int} (h:RowInts w v k l) :
  ∃ a cap,v=.slice a l.length cap∧l.length≤cap∧(0<l.length→∃ b off,a=some ⟨b,off,none⟩∧b<w.heap.size∧∀ i (hi:i<l.length),w.cell? ⟨b,off+i,none⟩=some (.int k l[i])):=by
 obtain ⟨_,a,cap,hv,hc,_,h2⟩:=h
 refine ⟨a,cap,hv,hc,fun hn=>?_⟩
 obtain ⟨b,off,ha,hlt,hcell⟩:=h2 hn
 refine ⟨b,off,ha,hlt,fun i hi=>?_⟩
 rw [hcell i (by omega)]
 simp [hi]
theorem RowInts.of_owns {w:World} {B:Nat} {v:Value} {e:TypeId} {n:Nat} {k:IntKind} {l:List Int} (h:w.ownsRow B e 1 v n (l.map (Value.int k))):RowInts w v k l:=by
 have h1:=Row.of_owns h
 have hl:l.length=n:=by have:=h.1;simpa using this
 unfold RowInts
 rw [hl];exact h1
end Go.Proofs.YtmklemelgdilkaaGreatDoor
namespace Go.Proofs.YtmklemelgdilkaaGreatDoor
set_option linter.all false

abbrev Prt:=Nat×Int×ByteArray
def rowsB:List Prt→Option (List Nat)
 | []=>some []
 | p::r=>match rowsB r with
  | none=>none
  | some ts=>if 0≤p.2.1∧p.2.1≤(ts.length:Int) then some ((1+(ts.take p.2.1.toNat).sum)::ts.drop p.2.1.toNat) else none
theorem rowsB_nil:rowsB []=some []:=rfl
theorem rowsB_cons {p:Prt} {r:List Prt} {ts:List Nat} (h:rowsB r=some ts) (h0:0≤p.2.1) (h1:p.2.1≤(ts.length:Int)):rowsB (p::r)=some ((1+(ts.take p.2.1.toNat).sum)::ts.drop p.2.1.toNat):=by
 rw [rowsB,h];exact if_pos ⟨h0,h1⟩
theorem rowsB_bad {p:Prt} {r:List Prt} {ts:List Nat} (h:rowsB r=some ts) (h0:¬ (0≤p.2.1∧p.2.1≤(ts.length:Int))):rowsB (p::r)=none:=by
 rw [rowsB,h];exact if_neg h0
theorem rowsB_none {p:Prt} {r:List Prt} (h:rowsB r=none):rowsB (p::r)=none:=by rw [rowsB,h]
theorem rowsB_inv {p:Prt} {r:List Prt} {q:List Nat} (h:rowsB (p::r)=some q):∃ ts,rowsB r=some ts∧0≤p.2.1∧p.2.1≤(ts.length:Int)∧q=(1+(ts.take p.2.1.toNat).sum)::ts.drop p.2.1.toNat:=by
 cases hr:rowsB r with
 | none=>rw [rowsB_none hr] at h;cases h
 | some ts =>
  by_cases hc:0≤p.2.1∧p.2.1≤(ts.length:Int)
  ·rw [rowsB_cons hr hc.1 hc.2] at h
   exact ⟨ts,rfl,hc.1,hc.2,(Option.some.inj h).symm⟩
  ·rw [rowsB_bad hr hc] at h;cases h
theorem sum_take_add:∀ (l:List Nat) (a b:Nat),(l.take (a+b)).sum=(l.take a).sum+((l.drop a).take b).sum
 | [],a,b=>by simp
 | x::l,0,b=>by simp
 | x::l,a+1,b=>by
  rw [show a+1+b=(a+b)+1 by omega,List.take_succ_cons,List.take_succ_cons,List.drop_succ_cons,List.sum_cons,List.sum_cons,sum_take_add l a b];omega
theorem sum_split (l:List Nat) (k:Nat):l.sum=(l.take k).sum+(l.drop k).sum:=by
 conv=>lhs;rw [← List.take_append_drop k l]
 rw [List.sum_append]
theorem rowsB_sum:∀ {l:List Prt} {ts:List Nat},rowsB l=some ts→ts.sum=l.length∧ts.length≤l.length∧∀ t∈ts,0<t
 | [],ts,h=>by rw [rowsB_nil] at h;cases h;simp
 | p::r,ts,h=>by
  obtain ⟨us,h1,h2,h3,rfl⟩:=rowsB_inv h
  obtain ⟨g1,g2,g3⟩:=rowsB_sum h1
  have hs:=sum_split us p.2.1.toNat
  refine ⟨by rw [List.sum_cons,List.length_cons];omega,by rw [List.length_cons,List.length_cons,List.length_drop];omega,fun t ht=>?_⟩
  rcases List.mem_cons.1 ht with rfl | ht
  ·omega
  ·exact g3 t (List.mem_of_mem_drop ht)
theorem rowsB_tail {p:Prt} {r:List Prt} {q:List Nat} (h:rowsB (p::r)=some q):∃ ts,rowsB r=some ts:=by
 obtain ⟨ts,h1,_⟩:=rowsB_inv h;exact ⟨ts,h1⟩
theorem rowsB_drop:∀ {l:List Prt} {ts:List Nat},rowsB l=some ts→∀ i,∃ us,rowsB (l.drop i)=some us
 | [],ts,h,i=>⟨[],by rw [List.drop_nil];rfl⟩
 | p::r,ts,h,0=>⟨ts,h⟩
 | p::r,ts,h,i+1=>by
  obtain ⟨us,h1⟩:=rowsB_tail h
  rw [List.drop_succ_cons];exact rowsB_drop h1 i
theorem rowsB_skip:∀ {l:List Prt} {ts:List Nat} (k:Nat),rowsB l=some ts→k≤ts.length→rowsB (l.drop (ts.take k).sum)=some (ts.drop k)
 | [],ts,k,h,hk=>by
  rw [rowsB_nil] at h;cases h
  simp at hk;subst hk;rfl
 | p::r,ts,0,h,hk=>by simpa using h
 | p::r,ts,k+1,h,hk=>by
  obtain ⟨us,h1,h2,h3,rfl⟩:=rowsB_inv h
  rw [List.length_cons,List.length_drop] at hk
  rw [List.take_succ_cons,List.sum_cons,List.drop_succ_cons,List.drop_drop]
  have h4:=rowsB_skip (p.2.1.toNat+k) h1 (by omega)
  rw [sum_take_add] at h4
  rw [show 1+(us.take p.2.1.toNat).sum+((us.drop p.2.1.toNat).take k).sum=((us.take p.2.1.toNat).sum+((us.drop p.2.1.toNat).take k).sum)+1 by omega,List.drop_succ_cons]
  exact h4
def headSize (l:List Prt):Nat:=match rowsB l with
 | some (t::_)=>t
 | _=>0
theorem headSize_of {l:List Prt} {t:Nat} {ts:List Nat} (h:rowsB l=some (t::ts)):headSize l=t:=by unfold headSize;rw [h]
def endB (l:List Prt) (i:Nat):Nat:=i+headSize (l.drop i)
def wellB (l:List Prt):Bool:=match rowsB l with
 | some [_]=>true
 | _=>false
theorem wellB_iff {l:List Prt}:wellB l=true↔rowsB l=some [l.length]:=by
 unfold wellB
 constructor
 ·intro h
  split at h
  ·rename_i x hx
   have:=(rowsB_sum hx).1
   simp at this
   rw [hx,this]
  ·cases h
 ·intro h;rw [h]
def endR (len:Nat):List Prt→Nat→Nat→Option Nat
 | _,0,i=>some i
 | [],_+1,_=>none
 | p::r,n+1,i=>if 0≤p.2.1∧p.2.1≤(len:Int) then endR len r (n+p.2.1.toNat) (i+1) else none
theorem endR_zero (len:Nat) (l:List Prt) (i:Nat):endR len l 0 i=some i:=by cases l <;> rfl
theorem endR_rows (len:Nat):∀ {l:List Prt} {ts:List Nat},rowsB l=some ts→l.length≤len→∀ n i,endR len l n i=if n≤ts.length then some (i+(ts.take n).sum) else none
 | [],ts,h,_,n,i=>by
  rw [rowsB_nil] at h;cases h
  cases n with
  | zero=>rw [endR_zero];simp
  | succ n=>rw [endR,if_neg (by simp)]
 | p::r,ts,h,hl,0,i=>by rw [endR_zero];simp
 | p::r,ts,h,hl,n+1,i=>by
  obtain ⟨us,h1,h2,h3,rfl⟩:=rowsB_inv h
  rw [List.length_cons] at hl
  have hus:=(rowsB_sum h1).2.1
  rw [endR,if_pos ⟨h2,by omega⟩,endR_rows len h1 (by omega)]
  rw [List.length_cons,List.length_drop]
  by_cases hc:n+p.2.1.toNat≤us.length
  ·rw [if_pos hc,if_pos (by omega),List.take_succ_cons,List.sum_cons,Nat.add_comm n,sum_take_add]
   congr 1;omega
  ·rw [if_neg hc,if_neg (by omega)]
theorem endR_le (len:Nat):∀ (l:List Prt) (n i e:Nat),endR len l n i=some e→i≤e∧e≤i+l.length
 | l,0,i,e,h=>by rw [endR_zero] at h;cases h;omega
 | [],n+1,i,e,h=>by rw [endR] at h;cases h
 | p::r,n+1,i,e,h=>by
  rw [endR] at h
  split at h
  ·have:=endR_le len r _ _ _ h;rw [List.length_cons];omega
  ·cases h
theorem rows_of_endR (len:Nat):∀ (l:List Prt) (n i e:Nat),endR len l n i=some e→∃ ts,rowsB (l.take (e-i))=some ts∧ts.length=n
 | l,0,i,e,h=>by rw [endR_zero] at h;cases h;rw [Nat.sub_self,List.take_zero];exact ⟨[],rfl,rfl⟩
 | [],n+1,i,e,h=>by rw [endR] at h;cases h
 | p::r,n+1,i,e,h=>by
  rw [endR] at h
  split at h
  ·rename_i hc
   obtain ⟨us,h1,h2⟩:=rows_of_endR len r _ _ _ h
   have hle:=endR_le len r _ _ _ h
   rw [show e-i=(e-(i+1))+1 by omega,List.take_succ_cons,rowsB_cons h1 hc.1 (by omega)]
   exact ⟨_,rfl,by rw [List.length_cons,List.length_drop];omega⟩
  ·cases h
theorem well_endR {l:List Prt}:(0<l.length∧endR l.length l 1 0=some l.length)↔wellB l=true:=by
 rw [wellB_iff]
 constructor
 ·rintro ⟨_,h⟩
  obtain ⟨ts,h1,h2⟩:=rows_of_endR _ _ _ _ _ h
  rw [Nat.sub_zero,List.take_length] at h1
  have hs:=(rowsB_sum h1).1
  match ts,h2 with
  | [t],_=>simp at hs;rw [h1,hs]
 ·intro h
  have hs:=(rowsB_sum h).2.2 l.length (by simp)
  refine ⟨hs,?_⟩
  rw [endR_rows _ h (Nat.le_refl _),if_pos (by simp)]
  simp
theorem rowsB_app {a b:List Prt} {us ts:List Nat} (h:rowsB a=some us) (g:rowsB b=some ts):rowsB (a++b)=some (us++ts):=by
 induction a generalizing us with
 | nil=>rw [rowsB_nil] at h;cases h;simpa using g
 | cons p r ih =>
  obtain ⟨vs,v1,v2,v3,rfl⟩:=rowsB_inv h
  have:=ih v1
  rw [List.cons_append,rowsB_cons this v2 (by rw [List.length_append];omega),List.take_append_of_le_length (by omega),List.drop_append_of_le_length (by omega)]
  rfl
def treesZ (l:List Prt):Int:=match rowsB l with
 | some ts=>(ts.length:Int)
 | none=>-1
def starts (i:Nat):List Nat→List Nat
 | []=>[]
 | t::ts=>i::starts (i+t) ts
theorem starts_length:∀ (ts:List Nat) (i:Nat),(starts i ts).length=ts.length
 | [],_=>rfl
 | t::ts,i=>by rw [starts,List.length_cons,List.length_cons,starts_length]
theorem starts_drop:∀ (ts:List Nat) (i k:Nat),k≤ts.length→(starts i ts).drop k=starts (i+(ts.take k).sum) (ts.drop k)
 | ts,i,0,_=>by simp
 | [],i,k+1,h=>by simp at h
 | t::ts,i,k+1,h=>by
  rw [starts,List.drop_succ_cons,starts_drop ts (i+t) k (by simpa using h),List.take_succ_cons,List.sum_cons,List.drop_succ_cons,Nat.add_assoc]
theorem starts_get:∀ (ts:List Nat) (i k:Nat),k<ts.length→(starts i ts).getD k 0=i+(ts.take k).sum
 | t::ts,i,0,_=>by simp [starts]
 | t::ts,i,k+1,h=>by
  rw [starts,List.getD_cons_succ,starts_get ts (i+t) k (by simpa using h),List.take_succ_cons,List.sum_cons,Nat.add_assoc]
theorem starts_step {p:Prt} {ts:List Nat} (i:Nat) (h1:p.2.1≤(ts.length:Int)):i::(starts (i+1) ts).drop p.2.1.toNat=starts i ((1+(ts.take p.2.1.toNat).sum)::ts.drop p.2.1.toNat):=by
 rw [starts,starts_drop _ _ _ (by omega)]
 congr 1
 congr 1
 omega
end Go.Proofs.YtmklemelgdilkaaGreatDoor
