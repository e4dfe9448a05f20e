/- 'append' as a run equation that a walk takes by itself. -/
import Derived.Test.YtbjkdmbcpkopjaaGreatDoorCoreMt
import Derived.Maps.AppendAt
import Derived.Deep.QuietTactic
import Derived.BigQuiet
namespace Go.Proofs.YtbjkdmbcpkopjaaGreatDoor
set_option linter.all false
open Go Go.RowKit

section
variable {P:Program}
theorem jN (w:World) (t ty e:TypeId) (ht:P.underlying t=some (.slice e)) (base:Nat) {z:Value} {size bytes:Nat} (hinfo:(P.info? e).map (fun i=>(i.zero,i.size,i.bytes))=some (some z,size,bytes)) (hzs:z.cells.size=size) (hsz:0<size)
  (v:Value) (n:Nat) (xs:List Value) (hown:w.ownsRow base e size v n xs) (src:Value) (m:Nat) (news:List Value) (hrow:Row w src m size news) (h1:∀ u∈news,u.oneCell'=true)
  (h63:n+m≤70368744177664) (hbytes:(n+m)*bytes≤140737488355328) (hbase:base≤w.heap.size) :
  ∃ v' w',(Builtin.append_ #[t,t] ty #[v,src]).run P w=.ok v' w'∧w'.ownsRow base e size v' (n+m) (xs++news)∧w.grownBy w' v.ownBlock∧(v'.ownBlock=v.ownBlock∨v'.ownBlock=some w.heap.size):=by
 obtain ⟨i,hi,hz0,hz1,hz2⟩:=info_parts hinfo;obtain ⟨hl,ad,cap,rfl,hc,hnone,hsome⟩:=hrow;cases ad with
 | none =>
  have hc0:=hnone rfl;subst hc0;obtain rfl:m=0:=by omega
  obtain rfl:news=[]:=List.eq_nil_of_length_eq_zero (by simpa using hl);exact ⟨v,w,run_append_owned_none (P:=P) (w:=w) base t ty e i size ht hi v n xs hown,by simpa using hown,World.grownBy.refl _ _,Or.inl rfl⟩
 | some ad =>
  obtain ⟨v',w',g1,g2,g3,_,g5⟩:=run_append_own_at (P:=P) w base t ty e i z size bytes ht hi hz0 hz1 hz2 hzs hsz v n xs hown ad m cap news hl (by
   intro j u hj;have hjl:j<news.length:=(List.getElem?_eq_some_iff.1 hj).1;have hm:0<m:=by
    rcases Nat.eq_zero_or_pos m with e | e
    ·subst e;simp at hl;rw [hl] at hjl;simp at hjl
    ·exact e
   obtain ⟨b,off,he,hbl,hcell⟩:=hsome hm;cases he
   have e1:(⟨b,off,none⟩:Addr).add j=⟨b,off+j,none⟩:=by simp [Addr.add]
   rw [e1,hcell j (by omega)];exact hj) h1 (by unfold maxLen;omega) hbytes hbase
  exact ⟨v',w',g1,g2,g3,g5⟩
theorem vM (w0:World) (C:Array Value) (e' t ty e:TypeId) (ht:P.underlying t=some (.slice e)) (base:Nat) {z:Value} {size bytes:Nat} (hinfo:(P.info? e).map (fun i=>(i.zero,i.size,i.bytes))=some (some z,size,bytes)) (hzs:z.cells.size=size) (hsz:0<size)
  (v:Value) (n:Nat) (xs:List Value) (hown:w0.ownsRow base e size v n xs) (m c:Nat) (hl:C.size=m*size) (hmc:m≤c) (h1:∀ u∈C.toList,u.oneCell'=true)
  (h63:n+m≤70368744177664) (hbytes:(n+m)*bytes≤140737488355328) (hbase:base≤w0.heap.size) :
  ∃ v' w',(Builtin.append_ #[t,t] ty #[v,.slice (some ⟨w0.heap.size,0,none⟩) m c]).run P (w0.alloc (.cells C e'))=.ok v' w'∧w'.ownsRow base e size v' (n+m) (xs++C.toList)∧(w0.alloc (.cells C e')).grownBy w' v.ownBlock∧(v'.ownBlock=v.ownBlock∨v'.ownBlock=some (w0.heap.size+1)):=by
 obtain ⟨v',w',g1,g2,g3,g4⟩:=jN (P:=P) (w0.alloc (.cells C e')) t ty e ht base hinfo hzs hsz v n xs (hown.alloc _) (.slice (some ⟨w0.heap.size,0,none⟩) m c) m C.toList
  ⟨by simpa using hl,some ⟨w0.heap.size,0,none⟩,c,rfl,hmc,by simp,fun _=>⟨w0.heap.size,0,rfl,by simp,fun i _=>by rw [Nat.zero_add,World.cell?_alloc_at _ _ _ _ rfl];simp⟩⟩ h1 h63 hbytes (by simp;omega)
 exact ⟨v',w',g1,g2,g3,by simpa using g4⟩
theorem zE {w w':World} {ops:Array Oper} {rest:List Oper} {o:Oper} {a:Act} {Q:Exit→Act→World→Prop} (hgd:o.guard=none) (s x:Operand) (t u:TypeId) {v src v':Value} {ty:TypeId}
  (hrun:(Builtin.append_ #[t,u] ty #[v,src]).run P w=.ok v' w') (ho:o.op=.call { callee:=.builtin .append,args:=#[s,x],argTypes:=#[t,u] }) (hty:o.type=ty)
  (hs:a.eval s=v) (hx:a.eval x=src) (h:wpList P ops Q rest (a.put o.dst v') w'):wpList P ops Q (o::rest) a w:=by
 subst hty;refine wpList_plain hgd fun K hK=>?_;unfold Oper.wp;simp [execOp,ho,resolve,invoke,builtin,hs,hx,hrun,Result.andThen];exact hK _ _ h
end
theorem zAa {w0 w w':World} {B:Nat} {v:Value} {e:TypeId} {size n:Nat} {xs:List Value} (hb:Below B w0 w) (hB:B≤w.heap.size) (hown:w.ownsRow B e size v n xs) (hg:w.grownBy w' v.ownBlock):Below B w0 w' :=
 hb.grown hg hB (fun k hk=>(hown.lt k hk).1)
theorem zPw (w:World) (B:Nat) (e:TypeId) (size:Nat) (hB:B≤w.heap.size):(w.alloc (.cells #[] e)).ownsRow B e size (.slice (some ⟨w.heap.size,0,none⟩) 0 0) 0 [] :=
 ⟨by simp,Or.inr ⟨w.heap.size,0,#[],rfl,hB,heap_alloc_new _ _,nR _,by unfold maxLen;omega,by simp,by simp⟩⟩
theorem vC {w:World} {B g:Nat} {e:TypeId} {size n cap:Nat} {xs:List Value} (h:w.ownsRow B e size (.slice (some ⟨g,0,none⟩) n cap) n xs) (j:Nat) (hj:j<xs.length) (u:Value):(w.setCell ⟨g,j,none⟩ u).ownsRow B e size (.slice (some ⟨g,0,none⟩) n cap) n (xs.set j u):=by
 obtain ⟨h1,h2⟩:=h;refine ⟨by rw [List.length_set];exact h1,Or.inr ?_⟩;rcases h2 with ⟨hv,_⟩ | ⟨g',cap',cur,hv,hg,hh,hnc,hcm,hcs,htk⟩
 ·cases hv
 ·simp only [Value.slice.injEq,Option.some.injEq,Addr.mk.injEq,and_true,true_and] at hv;obtain ⟨rfl,rfl⟩:=hv;refine ⟨g,cap,cur.setIfInBounds j u,rfl,hg,heap_setCell_same _ _ _ _ _ _ hh,hnc,hcm,by rw [Array.size_setIfInBounds];exact hcs,?_⟩;rw [Array.toList_setIfInBounds,List.take_set,htk]
abbrev ptrV (g:Nat):Value:=.pointer (some ⟨g,0,none⟩)
def ptrsV (gs:List Nat):List Value:=gs.map ptrV
theorem zCm (gs:List Nat):(ptrsV gs).length=gs.length:=by unfold ptrsV;simp
theorem zYo (gs:List Nat):∀ u∈ptrsV gs,u.oneCell'=true:=by
 intro u hu;obtain ⟨g,_,rfl⟩:=List.mem_map.1 hu;rfl
theorem zYp (a b:List Nat):ptrsV (a++b)=ptrsV a++ptrsV b:=by unfold ptrsV;simp
def leastK (k:Nat):Nat:=if k=53 then 2 else if k=29∨k=30∨k=50∨k=33 then 1 else 0
structure SynE where
 s:ByteArray
 toks:List (Int×Nat×Nat)
 prs:List Int
 vt:Value
 vp:Value
 w0:World
def SynE.gr (E:SynE):Nat:=E.w0.heap.size
def SynE.N (E:SynE):Nat:=E.toks.length
def wordZ (E:SynE) (i:Int):ByteArray :=
 if i<0∨(E.N:Int)≤i then ByteArray.empty else match E.toks[i.toNat]? with
 | some t=>if t.1=9 then ⟨#[59]⟩ else if t.1=8∨t.1=2 then E.s.extract t.2.1 t.2.2 else ByteArray.empty
 | none=>ByteArray.empty
def kindZ (E:SynE) (i:Int):Int:=if i<0∨(E.N:Int)≤i then 0 else match E.toks[i.toNat]? with
 | some t=>t.1
 | none=>0
theorem yBh {E:SynE} {j:Nat} (h:wordZ E j≠ByteArray.empty):j<E.N:=by
 unfold wordZ at h;by_cases c:(j:Int)<0∨(E.N:Int)≤j
 ·rw [iP c] at h;exact absurd rfl h
 ·omega
theorem zLf {E:SynE} {j:Nat} (h:kindZ E j≠0):j<E.N:=by
 unfold kindZ at h;by_cases c:(j:Int)<0∨(E.N:Int)≤j
 ·rw [iP c] at h;exact absurd rfl h
 ·omega
def textZ (E:SynE) (k:Nat) (w:Int):ByteArray :=
 let t:=if w<0 then ByteArray.empty else match E.toks[w.toNat]? with
  | some t=>E.s.extract t.2.1 t.2.2
  | none=>ByteArray.empty
 if k=45 then (if t=⟨#[60,45]⟩ then ⟨#[60,45,99,104,97,110]⟩ else if wordZ E (w+1)=⟨#[60,45]⟩ then ⟨#[99,104,97,110,60,45]⟩ else t) else t
abbrev nodeC (k:Nat) (w f t:Int) (v:Value):Obj:=.cells #[.int .u8 (k:Int),.int .i64 w,.int .i64 f,.int .i64 t,v] 70 (0,0)
abbrev NRow (W:World) (v:Value) (gs:List Nat):Prop:=W.ownsRow 0 61 1 v gs.length (ptrsV gs)
inductive Good (E:SynE) (W:World) (F:Nat→Prop):Nat→Nat→List Nat→List Prt→Prop
 | mk (g k:Nat) (word frm tx:Int) (v:Value) (gs:List Nat) (pss:List (List Prt)) (h0:F g) (hc:W.heap[g]?=some (nodeC k word frm tx v))
   (hw:-1≤word∧word<E.N) (hr:NRow W v gs∧∀ b,v.ownBlock=some b→F b) (hk:k<256∧leastK k≤gs.length) (hl:pss.length=gs.length) (kind:Nat→Nat) (kids:Nat→List Nat)
   (ih:∀ i (h:i<gs.length) (h':i<pss.length),Good E W F gs[i] (kind i) (kids i) pss[i]):Good E W F g k gs ((k,(gs.length:Int),textZ E k word)::pss.flatten)
theorem NRow.keep {W W':World} {v:Value} {gs:List Nat} (h:NRow W v gs) (hk:∀ b,v.ownBlock=some b→b<W.heap.size→W'.heap[b]?=W.heap[b]?):NRow W' v gs:=by
 obtain ⟨h1,h2⟩:=h;refine ⟨h1,?_⟩;rcases h2 with h2 | ⟨k,cap,cur,hv,hB,hh,r⟩
 ·exact Or.inl h2
 ·exact Or.inr ⟨k,cap,cur,hv,hB,(hk k (by rw [hv];rfl) (zG hh)).trans hh,r⟩
theorem Good.to {E:SynE} {W W':World} {F F':Nat→Prop} (hk:∀ b,F b→W'.heap[b]?=W.heap[b]?∧F' b):∀ {g k:Nat} {gs:List Nat} {ps:List Prt},Good E W F g k gs ps→Good E W' F' g k gs ps:=by
 intro g k gs ps h;induction h with
 | mk g k word frm tx v gs pss h0 hc hw hr hkk hl kind kids ih ih2=>exact .mk g k word frm tx v gs pss (hk g h0).2 ((hk g h0).1.trans hc) hw ⟨hr.1.keep fun b e _=>(hk b (hr.2 b e)).1,fun b e=>(hk b (hr.2 b e)).2⟩ hkk hl kind kids ih2
def GoodS (E:SynE) (W:World) (F:Nat→Prop) (gs:List Nat) (ps:List Prt):Prop:=∃ pss:List (List Prt),pss.length=gs.length∧ps=pss.flatten∧∀ i (h:i<gs.length) (h':i<pss.length),∃ k ks,Good E W F gs[i] k ks pss[i]
theorem GoodS.to {E:SynE} {W W':World} {F F':Nat→Prop} (hk:∀ b,F b→W'.heap[b]?=W.heap[b]?∧F' b) {gs:List Nat} {ps:List Prt} (h:GoodS E W F gs ps):GoodS E W' F' gs ps:=by
 obtain ⟨pss,a,b,c⟩:=h;exact ⟨pss,a,b,fun i h1 h2=>by obtain ⟨k,ks,g⟩:=c i h1 h2;exact ⟨k,ks,g.to hk⟩⟩
theorem GoodS.nil (E:SynE) (W:World) (F:Nat→Prop):GoodS E W F [] []:=⟨[],rfl,rfl,fun i h=>by simp at h⟩
theorem GoodS.cons {E:SynE} {W:World} {F:Nat→Prop} {g k:Nat} {ks gs:List Nat} {p ps:List Prt} (h:Good E W F g k ks p) (hs:GoodS E W F gs ps):GoodS E W F (g::gs) (p++ps):=by
 obtain ⟨pss,a,b,c⟩:=hs;refine ⟨p::pss,by simp [a],by simp [b],fun i h1 h2=>?_⟩;cases i with
 | zero=>exact ⟨k,ks,h⟩
 | succ i=>exact c i (by simpa using h1) (by simpa using h2)
theorem GoodS.app {E:SynE} {W:World} {F:Nat→Prop} {gs gs':List Nat} {ps ps':List Prt} (h:GoodS E W F gs ps) (h':GoodS E W F gs' ps'):GoodS E W F (gs++gs') (ps++ps'):=by
 obtain ⟨szs,a2,a3,a4⟩:=h;obtain ⟨szs',b2,b3,b4⟩:=h';refine ⟨szs++szs',by rw [lA,lA,a2,b2],by rw [List.flatten_append,a3,b3],fun i h1 h2=>?_⟩;by_cases c:i<gs.length
 ·rw [List.getElem_append_left c,List.getElem_append_left (by omega)];exact a4 i c (by omega)
 ·rw [List.getElem_append_right (by omega),List.getElem_append_right (by omega)];have e:i-szs.length=i-gs.length:=by rw [a2]
  simp only [e];rw [lA] at h1;exact b4 (i-gs.length) (by omega) (by omega)
theorem zGy:∀ {l:List (List Prt)} {x:List Prt},x∈l→x.length≤l.flatten.length
 | [],x,h=>by cases h
 | y::l,x,h=>by
  rw [List.flatten_cons,lA];rcases List.mem_cons.1 h with rfl | h
  ·omega
  ·have:=zGy h;omega
theorem GoodS.at {E:SynE} {W:World} {F:Nat→Prop} {gs:List Nat} {ps:List Prt} (h:GoodS E W F gs ps) {i:Nat} (hi:i<gs.length):∃ k ks p,Good E W F gs[i] k ks p∧p.length≤ps.length:=by
 obtain ⟨pss,a2,a3,a4⟩:=h;obtain ⟨k,ks,g⟩:=a4 i hi (by omega);refine ⟨k,ks,_,g,?_⟩;rw [a3];exact zGy (gM _)
theorem Good.open' {E:SynE} {W:World} {F:Nat→Prop} {g k:Nat} {gs:List Nat} {ps:List Prt} (h:Good E W F g k gs ps):∃ (word frm tx:Int) (v:Value) (ps':List Prt),F g∧W.heap[g]?=some (nodeC k word frm tx v)∧(-1≤word∧word<E.N)∧(k<256∧leastK k≤gs.length)∧(NRow W v gs∧∀ b,v.ownBlock=some b→F b)∧GoodS E W F gs ps'∧ps=(k,(gs.length:Int),textZ E k word)::ps' :=
 match h with
 | .mk _ _ wd fr tx v _ pss h0 hc hw hr hk hl kind kids ih=>⟨wd,fr,tx,v,pss.flatten,h0,hc,hw,hk,hr,⟨pss,hl,rfl,fun i h1 h2=>⟨_,_,ih i h1 h2⟩⟩,rfl⟩
theorem Good.make {E:SynE} {W:World} {F:Nat→Prop} {g k:Nat} {word frm tx:Int} {v:Value} {gs:List Nat} {ps:List Prt} (h0:F g) (hc:W.heap[g]?=some (nodeC k word frm tx v))
  (hw:-1≤word∧word<E.N) (hk:k<256∧leastK k≤gs.length) (hr:NRow W v gs∧∀ b,v.ownBlock=some b→F b) (hl:GoodS E W F gs ps):Good E W F g k gs ((k,(gs.length:Int),textZ E k word)::ps):=by
 obtain ⟨pss,a2,a3,a4⟩:=hl;have hx:∀ i,∃ k ks,∀ (h:i<gs.length) (h':i<pss.length),Good E W F gs[i] k ks pss[i]:=fun i=>by
  by_cases h:i<gs.length
  ·obtain ⟨k,ks,g⟩:=a4 i h (by omega);exact ⟨k,ks,fun _ _=>g⟩
  ·exact ⟨0,[],fun h'=>absurd h' h⟩
 rw [a3];exact .mk g k word frm tx v gs pss h0 hc hw hr hk a2 (fun x=>(hx x).choose) (fun x=>(hx x).choose_spec.choose) (fun x h h'=>(hx x).choose_spec.choose_spec h h')
structure Rd (E:SynE) (W:World) (j:Nat):Prop where
 below:Below E.w0.heap.size E.w0 W
 cell:∃ t:Bool,W.heap[E.gr]?=some (.cells #[.string E.s,E.vt,E.vp,.int .i64 (j:Int),.bool t] 66 (0,0))
 le:j≤E.N
theorem Rd.lt {E:SynE} {W:World} {j:Nat} (h:Rd E W j):E.gr<W.heap.size:=by
 obtain ⟨t,ht⟩:=h.cell;exact zG ht
inductive Item
 | done (g k:Nat) (gs:List Nat) (ps:List Prt)
 | raw (b:Nat) (o:Obj)
 | row (v:Value) (gs:List Nat) (ps:List Prt)
def Item.blk:Item→Option Nat
 | .done ..=>none
 | .raw b _=>some b
 | .row v _ _=>v.ownBlock
def Item.ok (E:SynE) (W:World) (F:Nat→Prop):Item→Prop
 | .done g k gs ps=>Good E W F g k gs ps
 | .raw b o=>W.heap[b]?=some o
 | .row v gs ps=>NRow W v gs∧GoodS E W F gs ps
theorem Item.ok.to {E:SynE} {W W':World} {F F':Nat→Prop} {x:Item} (h:x.ok E W F) (hF:∀ b,F b→W'.heap[b]?=W.heap[b]?∧F' b) (hb:∀ b,x.blk=some b→b<W.heap.size→W'.heap[b]?=W.heap[b]?):x.ok E W' F':=by
 cases x with
 | done g k gs ps=>exact Good.to hF h
 | raw b o=>exact (hb b rfl (zG h)).trans h
 | row v gs ps=>exact ⟨h.1.keep hb,h.2.to hF⟩
def FrB (E:SynE) (W:World) (I:List Item) (b:Nat):Prop:=E.gr<b∧b<W.heap.size∧∀ y∈I,y.blk≠some b
structure St (E:SynE) (W:World) (j:Nat) (I:List Item):Prop where
 r:Rd E W j
 ok:∀ x∈I,x.ok E W (FrB E W I)
 gt:∀ x∈I,∀ b,x.blk=some b→E.gr<b∧b<W.heap.size
 nd:I.Pairwise fun x y=>∀ b,x.blk=some b→y.blk≠some b
section
variable {E:SynE} {W W':World} {j j':Nat} {A I I':List Item} {x x':Item}
theorem St.other (h:St E W j (A++x::I)) {y:Item} (hy:y∈A∨y∈I) {b:Nat} (hb:y.blk=some b):x.blk≠some b:=by
 have h1:=List.pairwise_append.1 h.nd;rcases hy with hy | hy
 ·exact h1.2.2 y hy x (List.mem_cons_self ..) b hb
 ·intro e;exact (List.pairwise_cons.1 h1.2.1).1 y hy b e hb
theorem St.upd (h:St E W j (A++x::I)) (hr:Rd E W' j') (hs:W.heap.size≤W'.heap.size) (hk:∀ b,E.gr<b→b<W.heap.size→x.blk≠some b→W'.heap[b]?=W.heap[b]?)
  (hb:∀ b,x'.blk=some b→(x.blk=some b∨W.heap.size≤b)∧b<W'.heap.size)
  (ho:(∀ b,FrB E W (A++x::I) b→W'.heap[b]?=W.heap[b]?∧FrB E W' (A++x'::I) b)→x'.ok E W' (FrB E W' (A++x'::I))):St E W' j' (A++x'::I):=by
 have mem:∀ {y z:Item},y∈A++z::I↔(y∈A∨y∈I)∨y=z:=by
  intro y z;simp only [List.mem_append,List.mem_cons];exact ⟨fun h=>by rcases h with h | h | h <;> simp [h],fun h=>by rcases h with (h | h) | h <;> simp [h]⟩
 have hF:∀ b,FrB E W (A++x::I) b→W'.heap[b]?=W.heap[b]?∧FrB E W' (A++x'::I) b:=fun b hf=>by
  refine ⟨hk b hf.1 hf.2.1 (hf.2.2 x (mem.2 (Or.inr rfl))),hf.1,Nat.lt_of_lt_of_le hf.2.1 hs,fun y hy e=>?_⟩;rcases mem.1 hy with hy | rfl
  ·exact hf.2.2 y (mem.2 (Or.inl hy)) e
  ·rcases (hb b e).1 with e' | e'
   ·exact hf.2.2 x (mem.2 (Or.inr rfl)) e'
   ·have:=hf.2.1;omega
 have hgt:∀ y,y∈A∨y∈I→∀ b,y.blk=some b→E.gr<b∧b<W.heap.size:=fun y hy b e=>h.gt y (mem.2 (Or.inl hy)) b e
 have hne:∀ y,y∈A∨y∈I→∀ b,y.blk=some b→x'.blk≠some b:=fun y hy b e e'=>by
  rcases (hb b e').1 with e2 | e2
  ·exact h.other hy e e2
  ·have:=(hgt y hy b e).2;omega
 refine ⟨hr,fun y hy=>?_,fun y hy b e=>?_,?_⟩
 ·rcases mem.1 hy with hy | rfl
  ·exact (h.ok y (mem.2 (Or.inl hy))).to hF fun b e hlt=>hk b (hgt y hy b e).1 hlt (h.other hy e)
  ·exact ho hF
 ·rcases mem.1 hy with hy | rfl
  ·exact ⟨(hgt y hy b e).1,Nat.lt_of_lt_of_le (hgt y hy b e).2 hs⟩
  ·refine ⟨?_,(hb b e).2⟩;rcases (hb b e).1 with e' | e'
   ·exact (h.gt x (mem.2 (Or.inr rfl)) b e').1
   ·have:=h.r.lt;omega
 ·have h1:=List.pairwise_append.1 h.nd;have h2:=List.pairwise_cons.1 h1.2.1;refine List.pairwise_append.2 ⟨h1.1,List.pairwise_cons.2 ⟨fun y hy b e e'=>hne y (Or.inr hy) b e' e,h2.2⟩,fun y hy z hz b e=>?_⟩;rcases List.mem_cons.1 hz with rfl | hz
  ·exact hne y (Or.inl hy) b e
  ·exact h1.2.2 y hy z (List.mem_cons_of_mem _ hz) b e
theorem St.push (h:St E W j I) (hr:Rd E W' j') (hs:W.heap.size≤W'.heap.size) (hk:∀ b,E.gr<b→b<W.heap.size→W'.heap[b]?=W.heap[b]?)
  (hb:∀ b,x'.blk=some b→W.heap.size≤b∧b<W'.heap.size)
  (ho:(∀ b,FrB E W I b→W'.heap[b]?=W.heap[b]?∧FrB E W' (x'::I) b)→x'.ok E W' (FrB E W' (x'::I))):St E W' j' (x'::I):=by
 have hF:∀ b,FrB E W I b→W'.heap[b]?=W.heap[b]?∧FrB E W' (x'::I) b:=fun b hf=>by
  refine ⟨hk b hf.1 hf.2.1,hf.1,Nat.lt_of_lt_of_le hf.2.1 hs,fun y hy e=>?_⟩;rcases List.mem_cons.1 hy with rfl | hy
  ·have:=(hb b e).1;have:=hf.2.1;omega
  ·exact hf.2.2 y hy e
 refine ⟨hr,fun y hy=>?_,fun y hy b e=>?_,List.pairwise_cons.2 ⟨fun y hy b e e'=>?_,h.nd⟩⟩
 ·rcases List.mem_cons.1 hy with rfl | hy
  ·exact ho hF
  ·exact (h.ok y hy).to hF fun b e hlt=>hk b (h.gt y hy b e).1 hlt
 ·rcases List.mem_cons.1 hy with rfl | hy
  ·have:=(hb b e).1;have:=h.r.lt;exact ⟨by omega,(hb b e).2⟩
  ·exact ⟨(h.gt y hy b e).1,Nat.lt_of_lt_of_le (h.gt y hy b e).2 hs⟩
 ·have:=(hb b e).1;have:=(h.gt y hy b e').2;omega
theorem St.move (h:St E W j I) (hr:Rd E W' j') (hs:W.heap.size≤W'.heap.size) (hk:∀ b,E.gr<b→b<W.heap.size→W'.heap[b]?=W.heap[b]?):St E W' j' I:=by
 have hF:∀ b,FrB E W I b→W'.heap[b]?=W.heap[b]?∧FrB E W' I b:=fun b hf=>⟨hk b hf.1 hf.2.1,hf.1,Nat.lt_of_lt_of_le hf.2.1 hs,hf.2.2⟩
 exact ⟨hr,fun y hy=>(h.ok y hy).to hF fun b e hlt=>hk b (h.gt y hy b e).1 hlt,fun y hy b e=>⟨(h.gt y hy b e).1,Nat.lt_of_lt_of_le (h.gt y hy b e).2 hs⟩,h.nd⟩
theorem St.sub (h:St E W j I) (s:I'.Sublist I):St E W j I' :=
 ⟨h.r,fun y hy=>(h.ok y (s.subset hy)).to (fun b hf=>⟨rfl,hf.1,hf.2.1,fun z hz=>hf.2.2 z (s.subset hz)⟩) (fun _ _ _=>rfl),fun y hy=>h.gt y (s.subset hy),h.nd.sublist s⟩
theorem St.tl (h:St E W j (x::I)):St E W j I:=h.sub (List.sublist_cons_self _ _)
theorem St.again (h:St E W j I) {g k:Nat} {gs:List Nat} {ps:List Prt} (hg:Good E W (FrB E W I) g k gs ps):St E W j (.done g k gs ps::I) :=
 h.push h.r (nR _) (fun _ _ _=>rfl) (fun b e=>by cases e) (fun hF=>Good.to hF hg)
theorem Rd.ext (h:Rd E W j) (hb:Below W.heap.size W W'):Rd E W' j:=by
 obtain ⟨t,ht⟩:=h.cell;exact ⟨zC h.below hb,⟨t,keeps hb ht⟩,h.le⟩
theorem St.ext (h:St E W j I) (hb:Below W.heap.size W W'):St E W' j I:=h.move (h.r.ext hb) hb.size fun b _ hlt=>hb.block b hlt
theorem St.at' (h:St E W j I) (i:Nat) (hi:i≤E.N):St E (W.setCell ⟨E.gr,3,none⟩ (.int .i64 (i:Int))) i I:=by
 obtain ⟨t,ht⟩:=h.r.cell;exact h.move ⟨h.r.below.setCell (p:=⟨E.gr,3,none⟩) (nR _) _,⟨t,heap_setCell_same W E.gr 3 _ _ _ ht⟩,hi⟩ (by simp) fun b h1 _=>heap_setCell_other _ _ _ _ (Nat.ne_of_gt h1)
theorem St.tight (h:St E W j I) (t:Bool):St E (W.setCell ⟨E.gr,4,none⟩ (.bool t)) j I:=by
 obtain ⟨t0,ht⟩:=h.r.cell;exact h.move ⟨h.r.below.setCell (p:=⟨E.gr,4,none⟩) (nR _) _,⟨t,heap_setCell_same W E.gr 4 _ _ _ ht⟩,h.r.le⟩ (by simp) fun b h1 _=>heap_setCell_other _ _ _ _ (Nat.ne_of_gt h1)
theorem St.new (h:St E W j I) (o:Obj):St E (W.alloc o) j (.raw W.heap.size o::I) :=
 h.push (h.r.ext ((bR _ _).alloc (nR _) o)) (by simp) (fun b _ hlt=>Below.heap_alloc _ _ _ hlt) (fun b e=>by cases e;simp) (fun _=>heap_alloc_new _ _)
theorem St.put (A:List Item) {b:Nat} {cs:Array Value} {T:TypeId} (h:St E W j (A++.raw b (.cells cs T (0,0))::I)) (i:Nat) (u:Value):St E (W.setCell ⟨b,i,none⟩ u) j (A++.raw b (.cells (cs.setIfInBounds i u) T (0,0))::I):=by
 have hm:Item.raw b (.cells cs T (0,0))∈A++.raw b (.cells cs T (0,0))::I:=by simp
 have hg:=h.gt _ hm b rfl;obtain ⟨t,ht⟩:=h.r.cell;refine h.upd ⟨h.r.below.setCell (p:=⟨b,i,none⟩) (Nat.le_of_lt hg.1) _,⟨t,(heap_setCell_other _ _ _ _ (Nat.ne_of_lt hg.1)).trans ht⟩,h.r.le⟩ (by simp) (fun c _ _ hne=>heap_setCell_other _ _ _ _ (fun e=>hne (by rw [e];rfl))) (fun c e=>?_) (fun _=>?_)
 ·cases e
  exact ⟨Or.inl rfl,by simpa using hg.2⟩
 ·exact heap_setCell_same _ _ _ _ _ _ (h.ok _ hm)
theorem St.nil (h:St E W j I):St E W j (.row (.slice none 0 0) [] []::I) :=
 h.push h.r (nR _) (fun _ _ _=>rfl) (fun b e=>by cases e) (fun _=>⟨World.ownsRow_nil _ _ _ _,GoodS.nil _ _ _⟩)
theorem St.lit (h:St E W j I) (gs:List Nat) (ps:List Prt) (hg:GoodS E W (FrB E W I) gs ps) (hn:gs.length≤1000):St E (W.alloc (.cells (ptrsV gs).toArray 61)) j (.row (.slice (some ⟨W.heap.size,0,none⟩) gs.length gs.length) gs ps::I):=by
 refine h.push (h.r.ext ((bR _ _).alloc (nR _) _)) (by simp) (fun b _ hlt=>Below.heap_alloc _ _ _ hlt) (fun b e=>by cases e;simp) (fun hF=>⟨?_,hg.to hF⟩);refine ⟨by rw [zCm];omega,Or.inr ⟨W.heap.size,gs.length,(ptrsV gs).toArray,rfl,Nat.zero_le _,heap_alloc_new _ _,nR _,by unfold maxLen;omega,by simp [zCm],?_⟩⟩;rw [List.take_of_length_le (by simp [zCm])]
theorem St.grow (A:List Item) {v v':Value} {gs gs':List Nat} {ps ps':List Prt} (h:St E W j (A++.row v gs ps::I)) (hg:W.grownBy W' v.ownBlock) (hv:v'.ownBlock=v.ownBlock∨v'.ownBlock=some W.heap.size) (ho:NRow W' v' (gs++gs')) (hp:GoodS E W (FrB E W (A++.row v gs ps::I)) gs' ps'):St E W' j (A++.row v' (gs++gs') (ps++ps')::I):=by
 have hm:Item.row v gs ps∈A++.row v gs ps::I:=by simp
 have hgt:=h.gt _ hm;obtain ⟨t,ht⟩:=h.r.cell;refine h.upd ⟨h.r.below.grown hg (Nat.le_of_lt h.r.lt) (fun k e=>Nat.le_of_lt (hgt k e).1),⟨t,(hg.block _ h.r.lt (fun e=>by have:=(hgt _ e.symm).1;omega)).trans ht⟩,h.r.le⟩ hg.size (fun b _ hlt hne=>hg.block b hlt (fun e=>hne e.symm)) (fun b e=>?_) (fun hF=>⟨ho,((h.ok _ hm).2.to hF).app (hp.to hF)⟩);refine ⟨?_,(ho.lt b e).2⟩;have e':v'.ownBlock=some b:=e;rcases hv with hv | hv
 ·left;show v.ownBlock=some b;rw [← hv];exact e'
 ·right;rw [hv] at e';cases e';exact nR _
theorem St.close (A:List Item) {n k:Nat} {w f t:Int} {v:Value} {gs:List Nat} {ps:List Prt} (h:St E W j (A++.raw n (nodeC k w f t v)::.row v gs ps::I)) (hw:-1≤w∧w<E.N) (hk:k<256∧leastK k≤gs.length):St E W j (A++.done n k gs ((k,(gs.length:Int),textZ E k w)::ps)::I):=by
 have hmr:Item.row v gs ps∈A++.raw n (nodeC k w f t v)::.row v gs ps::I:=by simp
 have hmn:Item.raw n (nodeC k w f t v)∈A++.raw n (nodeC k w f t v)::.row v gs ps::I:=by simp
 have h1:St E W j (A++.row v gs ps::I):=h.sub (List.Sublist.append_left (List.sublist_cons_self _ _) _);have hrow:=h.ok _ hmr;have hraw:W.heap[n]?=some (nodeC k w f t v):=h.ok _ hmn;have hF:∀ b,FrB E W (A++.raw n (nodeC k w f t v)::.row v gs ps::I) b→W.heap[b]?=W.heap[b]?∧FrB E W (A++.done n k gs ((k,(gs.length:Int),textZ E k w)::ps)::I) b:=fun b hf=>⟨rfl,hf.1,hf.2.1,fun y hy=>by
  rcases List.mem_append.1 hy with hy | hy
  ·exact hf.2.2 y (List.mem_append_left _ hy)
  ·rcases List.mem_cons.1 hy with rfl | hy
   ·intro e;cases e
   ·exact hf.2.2 y (List.mem_append_right _ (List.mem_cons_of_mem _ (List.mem_cons_of_mem _ hy)))⟩
 refine h1.upd h1.r (nR _) (fun _ _ _ _=>rfl) (fun b e=>by cases e) (fun _=>?_);refine Good.make ⟨(h.gt _ hmn n rfl).1,(h.gt _ hmn n rfl).2,fun y hy e=>?_⟩ hraw hw hk ⟨hrow.1,fun b e=>⟨(h.gt _ hmr b e).1,(h.gt _ hmr b e).2,fun y hy e'=>?_⟩⟩ (hrow.2.to hF)
 ·rcases List.mem_append.1 hy with hy | hy
  ·exact h.other (Or.inl hy) e rfl
  ·rcases List.mem_cons.1 hy with rfl | hy
   ·cases e
   ·exact h.other (Or.inr (List.mem_cons_of_mem _ hy)) e rfl
 ·rcases List.mem_append.1 hy with hy | hy
  ·exact h1.other (Or.inl hy) e' e
  ·rcases List.mem_cons.1 hy with rfl | hy
   ·cases e'
   ·exact h1.other (Or.inr hy) e' e
end
structure SynF (E:SynE):Prop where
 T:TokRow E.w0 E.vt E.toks
 P:zI E.w0 E.vp .i64 E.prs
 Pl:E.prs.length=E.toks.length
 Pb:∀ p∈E.prs,-100000000≤p∧p≤100000000
 ok:∀ t∈E.toks,(0≤t.1∧t.1<256)∧t.2.1≤t.2.2∧t.2.2≤E.s.size
 n:E.toks.length≤1000000
 sz:E.s.size≤1000000
section
variable {E:SynE} {W W':World} {j i:Nat} {I:List Item}
theorem Rd.c (h:Rd E W j):W.cell? ⟨E.gr,0,none⟩=some (.string E.s)∧W.cell? ⟨E.gr,1,none⟩=some E.vt∧W.cell? ⟨E.gr,2,none⟩=some E.vp∧W.cell? ⟨E.gr,3,none⟩=some (.int .i64 (j:Int))∧(∃ t:Bool,W.cell? ⟨E.gr,4,none⟩=some (.bool t))∧∀ i,W.frozen? ⟨E.gr,i,none⟩=false:=by
 obtain ⟨t,ht⟩:=h.cell;simp [World.cell?,World.frozen?,ht]
theorem Rd.c3 (h:Rd E W j):W.cell? ⟨E.gr,3,none⟩=some (.int .i64 (j:Int)):=h.c.2.2.2.1
theorem Rd.z (h:Rd E W j) (i:Nat):W.frozen? ⟨E.gr,i,none⟩=false:=h.c.2.2.2.2.2 i
end
abbrev panE (i:Nat):Ending:=.panicked [{ v:=.iface 95 (.int .i64 (i:Int)),recovered:=false }]
@[irreducible] def PNd (E:SynE) (I:List Item) (j:Nat) (a:Int) (e:Ending) (W':World):Prop :=
 (∃ g k gs ps,∃ i:Nat,e=.returned (ptrV g)∧St E W' i (.done g k gs ps::I)∧j≤i∧(ps.length:Int)≤8*((i:Int)-j)+a)∨(∃ i:Nat,e=panE i∧St E W' i I)
@[irreducible] def PW (E:SynE) (I:List Item) (j:Nat) (ok:Bool) (e:Ending) (W':World):Prop :=
 (ok=true∧e=.returned (.tuple #[])∧St E W' (j+1) I)∨(ok=false∧e=panE j∧St E W' j I)
abbrev QE (v:Value) (W:World) (e:Ending) (W':World):Prop:=e=.returned v∧Below W.heap.size W W'
end Go.Proofs.YtbjkdmbcpkopjaaGreatDoor
namespace Go.Proofs.YtbjkdmbcpkopjaaGreatDoor
set_option maxRecDepth 100000
set_option maxHeartbeats 32000000
set_option linter.all false
attribute [local irreducible] Calls
open Go.RowKit

structure SynT (E:SynE):Prop where
 T:TokRow E.w0 E.vt E.toks
 ok:∀ t∈E.toks,(0≤t.1∧t.1<256)∧t.2.1≤t.2.2∧t.2.2≤E.s.size
 n:E.toks.length≤1000000
 sz:E.s.size≤1000000
theorem zJs {E:SynE} (F:SynT E) {W:World} {j:Nat} (h:Rd E W j) (i:Int) (hi:-1000000000≤i∧i≤1000000000) :
  Calls Tryz.prog 21 #[ptrV E.gr,.int .i64 i] W (QE (.string (wordZ E i)) W):=by
 obtain ⟨q0,q1,q2,q3,⟨t,q4⟩,qz⟩:=h.c;obtain ⟨a,cap,hv,hcap,hT⟩:=F.T.below h.below;rw [hv] at q1;have hN:(E.toks.length:Int)≤1000000:=by have:=F.n;omega
 have HB:Hid (Below W.heap.size W W):=Hd (bR _ _);clear q2 q3 q4;by_cases c:i<0
 ·have e:wordZ E i=ByteArray.empty:=by unfold wordZ;rw [iP (Or.inl c)]
  rw [e];clear hv hT h F;go_enter Tryz.func21,Tryz.ntmps21;go_wp2;go_ret;exact ⟨rfl,HB.out⟩
 obtain ⟨n,rfl⟩:∃ n:Nat,i=n:=⟨i.toNat,by omega⟩;by_cases c2:n<E.toks.length
 ·obtain ⟨b,rfl,hbl,hc⟩:=hT (by omega);obtain ⟨c0,c1,c2'⟩:=hc n c2;obtain ⟨⟨o1,o2⟩,o3,o4⟩:=F.ok _ (gM c2);have hz:=F.sz;have hw:wordZ E n=if E.toks[n].1=9 then ⟨#[59]⟩ else if E.toks[n].1=8∨E.toks[n].1=2 then E.s.extract E.toks[n].2.1 E.toks[n].2.2 else ByteArray.empty:=by
   unfold wordZ;rw [iN (by unfold SynE.N;omega)];simp [c2]
  have HW:=Hd hw;have hgl:=h.lt;clear hw hv hT hc h F;generalize wordZ E n=wd at *;generalize E.toks[n].1=kk at *;generalize E.toks[n].2.1=fr at *;generalize E.toks[n].2.2=tx at *;have hn1:(n:Int)<E.toks.length:=by omega
  have hn2:¬ E.toks.length≤n:=by omega
  have r2:decide (tx<fr)=false:=decide_eq_false (by omega);have r3:decide (E.s.size<tx)=false:=decide_eq_false (by omega);have r4:¬ (tx:Int)<fr:=by omega
  have r5:¬ (E.s.size:Int)<tx:=by omega
  have HA:Hid (Below W.heap.size W (W.alloc (.cells #[.int .u8 kk,.int .i64 (fr:Int),.int .i64 (tx:Int)] 72))):=Hd ((bR _ _).alloc (nR _) _);have HD:∀ q:Nat,Hid (Below W.heap.size W ((W.alloc (.cells #[.int .u8 kk,.int .i64 (fr:Int),.int .i64 (tx:Int)] 72)).drewN q)):=fun q=>Hd (below_drewN HA.out q)
  by_cases k9:kk=9
  ·subst k9;obtain rfl:=HW.out;go_enter Tryz.func21,Tryz.ntmps21;go_wp2;go_ret;exact ⟨rfl,HA.out⟩
  have n9:(kk == 9)=false:=by simpa using k9
  by_cases k8:kk=8∨kk=2
  ·have HW2:=Hd (HW.out.trans (by rw [iN k9,iP k8]):wd=E.s.extract fr tx);obtain rfl:=HW2.out;rcases k8 with rfl | rfl;all_goals
    go_enter Tryz.func21,Tryz.ntmps21;go_wp2;go_quiet (fail);go_wp2;go_ret;exact ⟨rfl,(HD _).out⟩
  ·have HW2:=Hd (HW.out.trans (by rw [iN k9,iN k8]):wd=ByteArray.empty);obtain rfl:=HW2.out;have n8:(kk == 8)=false:=by simp;omega
   have n2:(kk == 2)=false:=by simp;omega
   go_enter Tryz.func21,Tryz.ntmps21;go_wp2;go_ret;exact ⟨rfl,HA.out⟩
 ·have e:wordZ E n=ByteArray.empty:=by unfold wordZ;rw [iP (Or.inr (by unfold SynE.N;omega))]
  rw [e];have hn1:¬ (n:Int)<E.toks.length:=by omega
  clear hv hT h F;go_enter Tryz.func21,Tryz.ntmps21;go_wp2;go_ret;exact ⟨rfl,HB.out⟩
theorem xB {E:SynE} (F:SynF E) {W:World} {j:Nat} (h:Rd E W j) (i:Int) (hi:-1000000000≤i∧i≤1000000000) :
  Calls Tryz.prog 21 #[ptrV E.gr,.int .i64 i] W (QE (.string (wordZ E i)) W) :=
 zJs ⟨F.T,F.ok,F.n,F.sz⟩ h i hi
def namedB (E:SynE) (i:Int):Bool:=kindZ E i == 1
def quotedB (E:SynE) (i:Int):Bool:=kindZ E i == 7
def litK (E:SynE) (i:Int):Bool:=decide (3≤kindZ E i)&&decide (kindZ E i≤7)
theorem zYj {E:SynE} {j:Nat} (h:namedB E j=true):j<E.N:=zLf (by unfold namedB at h;intro e;rw [e] at h;cases h)
theorem zUw {E:SynE} {j:Nat} (h:quotedB E j=true):j<E.N:=zLf (by unfold quotedB at h;intro e;rw [e] at h;cases h)
theorem yCx {E:SynE} {j:Nat} (h:litK E j=true):j<E.N:=zLf (by unfold litK at h;intro e;rw [e] at h;cases h)
def endedB (E:SynE) (j:Nat):Bool:=decide (j=E.N)
section
variable {E:SynE} {W:World} {j:Nat}
theorem zGu (F:SynF E) (h:Rd E W j) (i:Int) (hi:-1000000000≤i∧i≤1000000000):Calls Tryz.prog 120 #[ptrV E.gr,.int .i64 i] W (QE (.int .u8 (kindZ E i)) W):=by
 obtain ⟨q0,q1,q2,q3,⟨t,q4⟩,qz⟩:=h.c;obtain ⟨a,cap,hv,hcap,hT⟩:=F.T.below h.below;rw [hv] at q1;have hN:(E.toks.length:Int)≤1000000:=by have:=F.n;omega
 have HB:Hid (Below W.heap.size W W):=Hd (bR _ _);clear q2 q3 q4;by_cases c:i<0
 ·have e:kindZ E i=0:=by unfold kindZ;rw [iP (Or.inl c)]
  rw [e];clear hv hT h F;go_enter Tryz.func120,Tryz.ntmps120;go_wp2;go_ret;exact ⟨rfl,HB.out⟩
 obtain ⟨n,rfl⟩:∃ n:Nat,i=n:=⟨i.toNat,by omega⟩;by_cases c2:n<E.toks.length
 ·obtain ⟨b,rfl,hbl,hc⟩:=hT (by omega);obtain ⟨c0,c1,c2'⟩:=hc n c2;have hw:kindZ E n=E.toks[n].1:=by
   unfold kindZ;rw [iN (by unfold SynE.N;omega)];simp [c2]
  rw [hw];clear hw hv hT hc h F c1 c2';generalize E.toks[n].1=kk at *;have hn1:(n:Int)<E.toks.length:=by omega
  have hn2:¬ E.toks.length≤n:=by omega
  go_enter Tryz.func120,Tryz.ntmps120;go_wp2;go_ret;exact ⟨rfl,HB.out⟩
 ·have e:kindZ E n=0:=by unfold kindZ;rw [iP (Or.inr (by unfold SynE.N;omega))]
  rw [e];have hn1:¬ (n:Int)<E.toks.length:=by omega
  clear hv hT h F;go_enter Tryz.func120,Tryz.ntmps120;go_wp2;go_ret;exact ⟨rfl,HB.out⟩
theorem Rd.jn (F:SynF E) (h:Rd E W j):-1000000000≤(j:Int)∧(j:Int)≤1000000000:=by have:=h.le;have:=F.n;unfold SynE.N at *;omega
theorem jX (F:SynF E) (h:Rd E W j):Calls Tryz.prog 63 #[ptrV E.gr] W (QE (.string (wordZ E j)) W):=by
 have C:=Hd (xB F h j (h.jn F));have c3:=h.c3;clear h F;generalize wordZ E j=x at *;go_enter Tryz.func63,Tryz.ntmps63;go_wp2_with fail;refine C.out.mono ?_;rintro e w' ⟨rfl,hb⟩;go_wp2_with fail;go_ret;exact ⟨rfl,hb⟩
theorem xR (F:SynF E) (h:Rd E W j) (i:Int) (hi:-1000000000≤i∧i≤1000000000):Calls Tryz.prog 87 #[ptrV E.gr,.int .i64 i] W (QE (.bool (namedB E i)) W):=by
 have C:=Hd (zGu F h i hi);clear h F;unfold namedB;generalize kindZ E i=x at *;go_enter Tryz.func87,Tryz.ntmps87;go_wp2_with fail;refine C.out.mono ?_;rintro e w' ⟨rfl,hb⟩;go_wp2_with fail;go_ret;exact ⟨rfl,hb⟩
theorem zBt (F:SynF E) (h:Rd E W j) (i:Int) (hi:-1000000000≤i∧i≤1000000000):Calls Tryz.prog 143 #[ptrV E.gr,.int .i64 i] W (QE (.bool (quotedB E i)) W):=by
 have C:=Hd (zGu F h i hi);clear h F;unfold quotedB;generalize kindZ E i=x at *;go_enter Tryz.func143,Tryz.ntmps143;go_wp2_with fail;refine C.out.mono ?_;rintro e w' ⟨rfl,hb⟩;go_wp2_with fail;go_ret;exact ⟨rfl,hb⟩
theorem zEk (F:SynF E) (h:Rd E W j) (i:Int) (hi:-1000000000≤i∧i≤1000000000):Calls Tryz.prog 186 #[ptrV E.gr,.int .i64 i] W (QE (.bool (litK E i)) W):=by
 have C:=Hd (fun W' (h':Rd E W' j)=>zGu F h' i hi);have HR:=Hd h;clear h F;unfold litK;generalize kindZ E i=x at *;by_cases h1:3≤x
 ·go_enter Tryz.func186,Tryz.ntmps186;go_wp2_with fail;refine (C.out W HR.out).mono ?_;rintro e w' ⟨rfl,hb⟩;have HB:=Hd hb;clear hb;go_wp2_with fail;refine (C.out w' (HR.out.ext HB.out)).mono ?_;rintro e w2 ⟨rfl,hb2⟩;go_wp2_with fail;go_ret;exact ⟨by simp [h1],HB.out.trans (hb2.mono HB.out.size)⟩
 ·go_enter Tryz.func186,Tryz.ntmps186;go_wp2_with fail;refine (C.out W HR.out).mono ?_;rintro e w' ⟨rfl,hb⟩;go_wp2_with fail;go_ret;exact ⟨by simp [h1];omega,hb⟩
theorem gW (F:SynF E) (h:Rd E W j):Calls Tryz.prog 44 #[ptrV E.gr] W (QE (.bool (endedB E j)) W):=by
 obtain ⟨q0,q1,q2,q3,⟨t,q4⟩,qz⟩:=h.c;obtain ⟨a,cap,hv,hcap,hT⟩:=F.T;rw [hv] at q1;have HB:Hid (∀ n,Below W.heap.size W (W.drewN n)):=Hd (fun n=>below_drewN (bR _ _) n);have hN:(E.toks.length:Int)≤1000000:=by have:=F.n;omega
 unfold endedB SynE.N;clear q0 q2 q4 hv hT h F;go_enter Tryz.func44,Tryz.ntmps44;go_wp2_with fail;go_quiet (fail);go_wp2_with fail;go_ret;exact ⟨xE (by rw [Bool.eq_iff_iff];simp;omega),HB.out _⟩
theorem gX (h:Rd E W j):Calls Tryz.prog 45 #[ptrV E.gr] W (fun e W'=>e=panE j∧Below W.heap.size W W'):=by
 have c3:=h.c3;have HB:Hid (Below W.heap.size W W):=Hd (bR _ _);clear h;go_enter Tryz.func45,Tryz.ntmps45;go_wp2_with fail;exact ⟨rfl,rfl,HB.out⟩
end
end Go.Proofs.YtbjkdmbcpkopjaaGreatDoor
