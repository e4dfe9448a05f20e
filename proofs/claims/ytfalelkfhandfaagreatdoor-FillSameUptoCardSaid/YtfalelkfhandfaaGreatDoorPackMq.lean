/- Short forms for walks of drawn regions. -/
import Derived.Test.YtfalelkfhandfaaGreatDoorCoreMq
import Derived.Deep.RegionHeld3
import Derived.Deep.QuietTactic
import Derived.BigQuiet
import Derived.Deep.Cut
namespace Go.Proofs.YtfalelkfhandfaaGreatDoor
set_option linter.all false
open Go Go.RowKit

theorem aP:(∀ (a:Act) (d:Nat) (v:Value),a.put (some d) v={ a with tmps:=a.tmps.setIfInBounds d v })∧(∀ (a:Act) (v:Value),a.put none v=a)∧(∀ (l:List Value) (i:Nat) (v:Value),l.toArray.setIfInBounds i v=(l.set i v).toArray)∧(∀ (x:Value) (l:List Value) (v:Value),(x::l).set 0 v=v::l)∧∀ (x:Value) (l:List Value) (i:Nat) (v:Value),(x::l).set (i+1) v=x::l.set i v :=
 ⟨fun _ _ _=>rfl,fun _ _=>rfl,fun _ _ _=>List.setIfInBounds_toArray ..,fun _ _ _=>rfl,fun _ _ _ _=>rfl⟩
theorem wI {z y:Int} (h:z=y∧-9223372036854775808≤z∧z<9223372036854775808):IntKind.i64.wrap z=y:=by rw [IntKind.wrap_i64];omega
theorem mB {P:Program} {f:FuncId} {args:Array Value} {w w0:World} {v:Ending} {Q:Ending→World→Prop} (h:Calls P f args w fun e w'=>e=v∧Below w.heap.size w w') (hb:Below w0.heap.size w0 w) (k:∀ w',RowKit.Hid (Below w0.heap.size w0 w')→Q v w'):Calls P f args w Q :=
 h.mono fun e w' g=>by obtain ⟨rfl,g⟩:=g;exact k w' (Hd (zB hb g))
section
variable {P:Program} {ops:Array Oper} {Q:Exit→Act→World→Prop} {md:Region.Mode} {S:World→Prop}
theorem tkH (i d:Nat) (v:Value) {op:Op} {ty:TypeId} {pos:String} {after:Array Edge} {guard:Option (Tmp×Bool)} {fuel:Nat} {L:Array Bool} {a:Act} {w:World} (hi:ops[i]?=some ⟨some d,op,ty,pos,after,guard⟩) (hy:∀ w,S w→(execOp a.eval ⟨some d,op,ty,pos,after,guard⟩).run P w=.ok (.value v) w) (hS:S w) (h:wpAnyH P md ops Q S fuel (L.setIfInBounds i true) (a.put (some d) v) w)
  (hk:(Region.noSelect ops&&(Region.free md ops L i&&(Region.ready md ops L).contains i))=true:=by kernel_rfl) (hw:Region.wanted ⟨some d,op,ty,pos,after,guard⟩ (yielded ops a.tmps)=true:=by kernel_rfl) (hQ:∀ c a w,Q (.panic c) (a.put (some d) v) w→Q (.panic c) a w:=by exact fun _ _ _ h=>h):wpAnyH P md ops Q S (fuel+1) L a w :=
 have h1:=Bool.and_eq_true_iff.1 hk
 have h2:=Bool.and_eq_true_iff.1 h1.2
 wpAnyH_take hi h1.1 h2.1 h2.2 hQ (Or.inl ⟨hw,hy⟩) hS h
theorem skH (i d:Nat) {op:Op} {ty:TypeId} {pos:String} {after:Array Edge} {guard:Option (Tmp×Bool)} {fuel:Nat} {L:Array Bool} {a:Act} {w:World} (hi:ops[i]?=some ⟨some d,op,ty,pos,after,guard⟩) (hS:S w) (h:wpAnyH P md ops Q S fuel (L.setIfInBounds i true) (a.put (some d) undef) w)
  (hk:(Region.noSelect ops&&(Region.free md ops L i&&(Region.ready md ops L).contains i))=true:=by kernel_rfl) (hw:Region.wanted ⟨some d,op,ty,pos,after,guard⟩ (yielded ops a.tmps)=false:=by kernel_rfl) (hQ:∀ c a w,Q (.panic c) (a.put (some d) undef) w→Q (.panic c) a w:=by exact fun _ _ _ h=>h):wpAnyH P md ops Q S (fuel+1) L a w :=
 have h1:=Bool.and_eq_true_iff.1 hk
 have h2:=Bool.and_eq_true_iff.1 h1.2
 wpAnyH_take hi h1.1 h2.1 h2.2 hQ (Or.inr ⟨hw,rfl⟩) hS h
end
end Go.Proofs.YtfalelkfhandfaaGreatDoor
namespace Go.Proofs.YtfalelkfhandfaaGreatDoor
set_option linter.all false

abbrev Prt:=Nat×Int×ByteArray
def zF:List Prt→Option (List Nat)
 | []=>some []
 | p::r=>match zF r with
  | none=>none
  | some ts=>if 0≤p.2.1∧p.2.1≤(ts.length:Int) then some ((1+(ts.take p.2.1.toNat).sum)::ts.drop p.2.1.toNat) else none
theorem kZ:zF []=some []:=rfl
theorem jA {p:Prt} {r:List Prt} {ts:List Nat} (h:zF r=some ts) (h0:0≤p.2.1) (h1:p.2.1≤(ts.length:Int)):zF (p::r)=some ((1+(ts.take p.2.1.toNat).sum)::ts.drop p.2.1.toNat):=by
 rw [zF,h];exact if_pos ⟨h0,h1⟩
theorem zHp {p:Prt} {r:List Prt} {ts:List Nat} (h:zF r=some ts) (h0:¬ (0≤p.2.1∧p.2.1≤(ts.length:Int))):zF (p::r)=none:=by
 rw [zF,h];exact if_neg h0
theorem zNu {p:Prt} {r:List Prt} (h:zF r=none):zF (p::r)=none:=by rw [zF,h]
theorem jB {p:Prt} {r:List Prt} {q:List Nat} (h:zF (p::r)=some q):∃ ts,zF r=some ts∧0≤p.2.1∧p.2.1≤(ts.length:Int)∧q=(1+(ts.take p.2.1.toNat).sum)::ts.drop p.2.1.toNat:=by
 cases hr:zF r with
 | none=>rw [zNu hr] at h;cases h
 | some ts =>
  by_cases hc:0≤p.2.1∧p.2.1≤(ts.length:Int)
  ·rw [jA hr hc.1 hc.2] at h
   exact ⟨ts,rfl,hc.1,hc.2,(Option.some.inj h).symm⟩
  ·rw [zHp hr hc] at h;cases h
theorem kI:∀ (l:List Nat) (a b:Nat),(l.take (a+b)).sum=(l.take a).sum+((l.drop a).take b).sum
 | [],a,b=>by simp
 | x::l,0,b=>by simp
 | x::l,a+1,b=>by
  rw [show a+1+b=(a+b)+1 by omega,List.take_succ_cons,List.take_succ_cons,List.drop_succ_cons,List.sum_cons,List.sum_cons,kI l a b];omega
theorem zRe (l:List Nat) (k:Nat):l.sum=(l.take k).sum+(l.drop k).sum:=by
 conv=>lhs;rw [← List.take_append_drop k l]
 rw [List.sum_append]
theorem yO:∀ {l:List Prt} {ts:List Nat},zF l=some ts→ts.sum=l.length∧ts.length≤l.length∧∀ t∈ts,0<t
 | [],ts,h=>by rw [kZ] at h;cases h;simp
 | p::r,ts,h=>by
  obtain ⟨us,h1,h2,h3,rfl⟩:=jB h
  obtain ⟨g1,g2,g3⟩:=yO h1
  have hs:=zRe us p.2.1.toNat
  refine ⟨by rw [List.sum_cons,List.length_cons];omega,by rw [List.length_cons,List.length_cons,List.length_drop];omega,fun t ht=>?_⟩
  rcases List.mem_cons.1 ht with rfl | ht
  ·omega
  ·exact g3 t (List.mem_of_mem_drop ht)
theorem zNv {p:Prt} {r:List Prt} {q:List Nat} (h:zF (p::r)=some q):∃ ts,zF r=some ts:=by
 obtain ⟨ts,h1,_⟩:=jB h;exact ⟨ts,h1⟩
theorem jW:∀ {l:List Prt} {ts:List Nat},zF l=some ts→∀ i,∃ us,zF (l.drop i)=some us
 | [],ts,h,i=>⟨[],by rw [List.drop_nil];rfl⟩
 | p::r,ts,h,0=>⟨ts,h⟩
 | p::r,ts,h,i+1=>by
  obtain ⟨us,h1⟩:=zNv h
  rw [List.drop_succ_cons];exact jW h1 i
theorem gY:∀ {l:List Prt} {ts:List Nat} (k:Nat),zF l=some ts→k≤ts.length→zF (l.drop (ts.take k).sum)=some (ts.drop k)
 | [],ts,k,h,hk=>by
  rw [kZ] at h;cases h
  simp at hk;subst hk;rfl
 | p::r,ts,0,h,hk=>by simpa using h
 | p::r,ts,k+1,h,hk=>by
  obtain ⟨us,h1,h2,h3,rfl⟩:=jB h
  rw [List.length_cons,List.length_drop] at hk
  rw [List.take_succ_cons,List.sum_cons,List.drop_succ_cons,List.drop_drop]
  have h4:=gY (p.2.1.toNat+k) h1 (by omega)
  rw [kI] at h4
  rw [show 1+(us.take p.2.1.toNat).sum+((us.drop p.2.1.toNat).take k).sum=((us.take p.2.1.toNat).sum+((us.drop p.2.1.toNat).take k).sum)+1 by omega,List.drop_succ_cons]
  exact h4
def headSize (l:List Prt):Nat:=match zF l with
 | some (t::_)=>t
 | _=>0
theorem xX {l:List Prt} {t:Nat} {ts:List Nat} (h:zF l=some (t::ts)):headSize l=t:=by unfold headSize;rw [h]
def zA (l:List Prt) (i:Nat):Nat:=i+headSize (l.drop i)
def zZ (l:List Prt):Bool:=match zF l with
 | some [_]=>true
 | _=>false
theorem kJ {l:List Prt}:zZ l=true↔zF l=some [l.length]:=by
 unfold zZ
 constructor
 ·intro h
  split at h
  ·rename_i x hx
   have:=(yO hx).1
   simp at this
   rw [hx,this]
  ·cases h
 ·intro h;rw [h]
def endR (len:Nat):List Prt→Nat→Nat→Option Nat
 | _,0,i=>some i
 | [],_+1,_=>none
 | p::r,n+1,i=>if 0≤p.2.1∧p.2.1≤(len:Int) then endR len r (n+p.2.1.toNat) (i+1) else none
theorem fZ (len:Nat) (l:List Prt) (i:Nat):endR len l 0 i=some i:=by cases l <;> rfl
theorem zHq (len:Nat):∀ {l:List Prt} {ts:List Nat},zF l=some ts→l.length≤len→∀ n i,endR len l n i=if n≤ts.length then some (i+(ts.take n).sum) else none
 | [],ts,h,_,n,i=>by
  rw [kZ] at h;cases h
  cases n with
  | zero=>rw [fZ];simp
  | succ n=>rw [endR,if_neg (by simp)]
 | p::r,ts,h,hl,0,i=>by rw [fZ];simp
 | p::r,ts,h,hl,n+1,i=>by
  obtain ⟨us,h1,h2,h3,rfl⟩:=jB h
  rw [List.length_cons] at hl
  have hus:=(yO h1).2.1
  rw [endR,if_pos ⟨h2,by omega⟩,zHq len h1 (by omega)]
  rw [List.length_cons,List.length_drop]
  by_cases hc:n+p.2.1.toNat≤us.length
  ·rw [if_pos hc,if_pos (by omega),List.take_succ_cons,List.sum_cons,Nat.add_comm n,kI]
   congr 1;omega
  ·rw [if_neg hc,if_neg (by omega)]
theorem zOp (len:Nat):∀ (l:List Prt) (n i e:Nat),endR len l n i=some e→i≤e∧e≤i+l.length
 | l,0,i,e,h=>by rw [fZ] at h;cases h;omega
 | [],n+1,i,e,h=>by rw [endR] at h;cases h
 | p::r,n+1,i,e,h=>by
  rw [endR] at h
  split at h
  ·have:=zOp len r _ _ _ h;rw [List.length_cons];omega
  ·cases h
theorem zBj (len:Nat):∀ (l:List Prt) (n i e:Nat),endR len l n i=some e→∃ ts,zF (l.take (e-i))=some ts∧ts.length=n
 | l,0,i,e,h=>by rw [fZ] at h;cases h;rw [Nat.sub_self,List.take_zero];exact ⟨[],rfl,rfl⟩
 | [],n+1,i,e,h=>by rw [endR] at h;cases h
 | p::r,n+1,i,e,h=>by
  rw [endR] at h
  split at h
  ·rename_i hc
   obtain ⟨us,h1,h2⟩:=zBj len r _ _ _ h
   have hle:=zOp len r _ _ _ h
   rw [show e-i=(e-(i+1))+1 by omega,List.take_succ_cons,jA h1 hc.1 (by omega)]
   exact ⟨_,rfl,by rw [List.length_cons,List.length_drop];omega⟩
  ·cases h
theorem gK {a b:List Prt} {us ts:List Nat} (h:zF a=some us) (g:zF b=some ts):zF (a++b)=some (us++ts):=by
 induction a generalizing us with
 | nil=>rw [kZ] at h;cases h;simpa using g
 | cons p r ih =>
  obtain ⟨vs,v1,v2,v3,rfl⟩:=jB h
  have:=ih v1
  rw [List.cons_append,jA this v2 (by rw [List.length_append];omega),List.take_append_of_le_length (by omega),List.drop_append_of_le_length (by omega)]
  rfl
def xE (l:List Prt):Int:=match zF l with
 | some ts=>(ts.length:Int)
 | none=>-1
def starts (i:Nat):List Nat→List Nat
 | []=>[]
 | t::ts=>i::starts (i+t) ts
theorem xG:∀ (ts:List Nat) (i:Nat),(starts i ts).length=ts.length
 | [],_=>rfl
 | t::ts,i=>by rw [starts,List.length_cons,List.length_cons,xG]
theorem zCv:∀ (ts:List Nat) (i k:Nat),k≤ts.length→(starts i ts).drop k=starts (i+(ts.take k).sum) (ts.drop k)
 | ts,i,0,_=>by simp
 | [],i,k+1,h=>by simp at h
 | t::ts,i,k+1,h=>by
  rw [starts,List.drop_succ_cons,zCv ts (i+t) k (by simpa using h),List.take_succ_cons,List.sum_cons,List.drop_succ_cons,Nat.add_assoc]
theorem gZ:∀ (ts:List Nat) (i k:Nat),k<ts.length→(starts i ts).getD k 0=i+(ts.take k).sum
 | t::ts,i,0,_=>by simp [starts]
 | t::ts,i,k+1,h=>by
  rw [starts,List.getD_cons_succ,gZ ts (i+t) k (by simpa using h),List.take_succ_cons,List.sum_cons,Nat.add_assoc]
theorem zLr {p:Prt} {ts:List Nat} (i:Nat) (h1:p.2.1≤(ts.length:Int)):i::(starts (i+1) ts).drop p.2.1.toNat=starts i ((1+(ts.take p.2.1.toNat).sum)::ts.drop p.2.1.toNat):=by
 rw [starts,zCv _ _ _ (by omega)]
 congr 1
 congr 1
 omega
end Go.Proofs.YtfalelkfhandfaaGreatDoor
namespace Go.Proofs.YtfalelkfhandfaaGreatDoor
set_option maxRecDepth 100000
set_option maxHeartbeats 32000000
set_option linter.all false
open Go.RowKit

theorem vW:(Tryz.prog.info? 3).map (fun i=>(i.zero,i.size,i.bytes))=some (some (.int .i64 0),1,8):=by kernel_rfl
theorem vQ (n:Nat) (hn:n≤1000000000) (w:World) :
  (Instr.makeSlice 27 (.int .i64 (n:Int)) (.int .i64 (n:Int))).run Tryz.prog w=.ok (.slice (some ⟨w.heap.size,0,none⟩) n n) (w.alloc (.cells ((List.replicate n (0:Int)).map (Value.int .i64)).toArray 3)):=by
 obtain ⟨i,hi,hz,hsz,hb⟩:=info_parts vW
 have hr:=run_make (P:=Tryz.prog) w 27 3 i (.int .i64 0) Tryz.underlying27 hi hz .i64 .i64 (n:Int) (n:Int) (by omega) (Int.le_refl _) (by rw [hb];omega) (by omega)
 rw [hsz] at hr
 have e:madeCells (Value.int .i64 0).cells ((n:Int).toNat*1)=((List.replicate n (0:Int)).map (Value.int .i64)).toArray:=by
  apply Array.ext'
  rw [Int.toNat_natCast,Nat.mul_one]
  show (madeCells #[.int .i64 0] n).toList=_
  rw [toList_madeCells_one,List.map_replicate]
 rw [e] at hr
 simpa using hr
theorem xC {w:World} {a:Addr} {b i:Nat} (h:b≠a.block) (u:Value):(w.setCell a u).cell? ⟨b,i,none⟩=w.cell? ⟨b,i,none⟩:=by
 simp only [World.cell?,heap_setCell_other _ _ _ _ h]
theorem kT {w:World} {B:Nat} {a:Option Addr} {e:TypeId} {size n cap:Nat} {xs:List Value} (h:w.ownsRow B e size (.slice a n cap) n xs) {k:Nat} (hk:k≤n):w.ownsRow B e size (.slice a k cap) k (xs.take (k*size)):=by
 obtain ⟨h1,h2⟩:=h
 have hm:k*size≤n*size:=Nat.mul_le_mul_right _ hk
 refine ⟨by rw [List.length_take];omega,?_⟩
 rcases h2 with ⟨hv,hn⟩ | ⟨g,cap',cur,hv,hg,hh,hnc,hcm,hcs,htk⟩
 ·subst hn
  obtain rfl:k=0:=by omega
  exact Or.inl ⟨hv,rfl⟩
 ·simp only [Value.slice.injEq,true_and] at hv
  obtain ⟨rfl,rfl⟩:=hv
  refine Or.inr ⟨g,cap,cur,rfl,hg,hh,by omega,hcm,hcs,?_⟩
  rw [← htk,List.take_take,Nat.min_eq_left hm]
theorem xF {w:World} {B:Nat} {a:Option Addr} {e:TypeId} {size n m cap:Nat} {xs:List Value} (h:w.ownsRow B e size (.slice a m cap) n xs) (hn:0<n):∃ g,a=some ⟨g,0,none⟩:=by
 rcases h.2 with ⟨_,h0⟩ | ⟨g,cap',cur,hv,_⟩
 ·omega
 ·simp only [Value.slice.injEq] at hv
  exact ⟨g,hv.1⟩
def partV (p:Prt):List Value:=[.int .u8 (p.1:Int),.int .i64 p.2.1,.string p.2.2]
def zU (l:List Prt):List Value:=l.flatMap partV
theorem yE (l:List Prt):(zU l).length=l.length*3:=by
 induction l with
 | nil=>rfl
 | cons p l ih=>show (partV p++zU l).length=_;rw [List.length_append,ih,List.length_cons];show 3+_=_;omega
theorem yF (a b:List Prt):zU (a++b)=zU a++zU b:=by unfold zU;rw [List.flatMap_append]
theorem zCe:∀ (l:List Prt) (i:Nat) (hi:i<l.length),(zU l)[i*3]?=some (.int .u8 (l[i].1:Int))∧(zU l)[i*3+1]?=some (.int .i64 l[i].2.1)∧(zU l)[i*3+2]?=some (.string l[i].2.2)
 | p::l,0,_=>⟨rfl,rfl,rfl⟩
 | p::l,i+1,hi=>by
  have:=zCe l i (by simpa using hi)
  have e:zU (p::l)=partV p++zU l:=rfl
  rw [e]
  simp only [List.getElem_cons_succ]
  rw [List.getElem?_append_right (by simp [partV];omega),List.getElem?_append_right (by simp [partV];omega),List.getElem?_append_right (by simp [partV];omega)]
  have e1:(i+1)*3-(partV p).length=i*3:=by simp [partV];omega
  have e2:(i+1)*3+1-(partV p).length=i*3+1:=by simp [partV];omega
  have e3:(i+1)*3+2-(partV p).length=i*3+2:=by simp [partV];omega
  rw [e1,e2,e3]
  exact this
def zG (w:World) (v:Value) (l:List Prt):Prop:=Row w v l.length 3 (zU l)
theorem zG.below {w w':World} {v:Value} {l:List Prt} (h:zG w v l) (hb:Below w.heap.size w w'):zG w' v l:=Row.below h hb
theorem zG.slice {w:World} {v:Value} {l:List Prt} (h:zG w v l):∃ a cap,v=.slice a l.length cap∧l.length≤cap:=by
 obtain ⟨_,a,cap,hv,hc,_⟩:=h;exact ⟨a,cap,hv,hc⟩
theorem zG.at {w w':World} {a:Option Addr} {n cap:Nat} {l:List Prt} (h:zG w (.slice a n cap) l) (hb:Below w.heap.size w w') (hp:0<l.length) :
  ∃ b off,a=some ⟨b,off,Option.none⟩∧n=l.length∧l.length≤cap∧b<w.heap.size∧∀ i (hi:i<l.length),w'.cell? ⟨b,off+i*3,Option.none⟩=some (.int .u8 (l[i].1:Int))∧w'.cell? ⟨b,off+i*3+1,Option.none⟩=some (.int .i64 l[i].2.1)∧w'.cell? ⟨b,off+i*3+2,Option.none⟩=some (.string l[i].2.2):=by
 obtain ⟨h1,a',cap',hv,hc,_,h2⟩:=h
 simp only [Value.slice.injEq] at hv
 obtain ⟨rfl,rfl,rfl⟩:=hv
 obtain ⟨b,off,ha,hbl,hcell⟩:=h2 hp
 refine ⟨b,off,ha,rfl,hc,hbl,fun i hi=>?_⟩
 obtain ⟨g1,g2,g3⟩:=zCe l i hi
 refine ⟨?_,?_,?_⟩
 ·rw [hb.cell (p:=⟨b,off+i*3,Option.none⟩) hbl,hcell _ (by omega)];exact g1
 ·rw [hb.cell (p:=⟨b,off+i*3+1,Option.none⟩) hbl,Nat.add_assoc,hcell _ (by omega)];exact g2
 ·rw [hb.cell (p:=⟨b,off+i*3+2,Option.none⟩) hbl,Nat.add_assoc,hcell _ (by omega)];exact g3
def endsL (l:List Prt):List Int:=(List.range l.length).map fun i=>(zA l i:Int)
theorem xJ {l:List Prt} {j:Nat} (hj:j<l.length):(endsL l)[j]?=some (zA l j:Int):=by simp [endsL,hj]
theorem zN (l:List Prt):(endsL l).length=l.length:=by simp [endsL]
@[irreducible] def endsPost (l:List Prt) (w0:World) (e:Ending) (w':World):Prop :=
 match zF l with
 | some ts=>∃ v,e=.returned (.tuple #[v,.int .i64 (ts.length:Int),.bool true])∧Below w0.heap.size w0 w'∧zK w' v .i64 (endsL l)
 | none=>e=.returned (.tuple #[.slice none 0 0,.int .i64 0,.bool false])∧Below w0.heap.size w0 w'
def endsRel (l:List Prt) (w:World) (op j:Value) (wr:World):Prop :=
 ∃ (k:Nat) (ts:List Nat) (E:List Int),j=.int .i64 ((k:Int)-1)∧k≤l.length∧zF (l.drop k)=some ts∧E.length=l.length∧(∀ i,k≤i→i<l.length→E.getD i 0=(zA l i:Int)) ∧
  wr.heap[w.heap.size]?=some (.cells (E.map (Value.int .i64)).toArray 3 (0,0))∧wr.ownsRow (w.heap.size+1) 3 1 op ts.length ((starts k ts).reverse.map fun (x:Nat)=>Value.int .i64 (x:Int))∧Below w.heap.size w wr
theorem zFp {l:List Prt} {w Wx w':World} {B i q:Nat} {ts:List Nat} {E:List Int} {oa:Option Addr} {oc:Nat} {v':Value} (hB:w.heap.size=B) (hil:i<l.length) (hrow:zF (l.drop i)=some ((1+(ts.take q).sum)::ts.drop q))
  (hst:i::(starts (i+1) ts).drop q=starts i ((1+(ts.take q).sum)::ts.drop q)) (hq:q≤ts.length) (hEl:E.length=l.length) (hE:∀ j,i+1≤j→j<l.length→E.getD j 0=(zA l j:Int))
  (hx1:Wx.heap[B]?=some (.cells ((E.set i (zA l i:Int)).map (Value.int .i64)).toArray 3 (0,0))) (hx3:Below B w Wx)
  (n:Nat) (hn:n=ts.length-q) (xs ys:List Value) (hxs:xs=((starts (i+1) ts).reverse.map fun (x:Nat)=>Value.int .i64 (x:Int)).take (n*1))
  (hx2:Wx.ownsRow (B+1) 3 1 (.slice oa n oc) n xs)
  (hown:w'.ownsRow (B+1) 3 1 v' (n+1) ys) (hys:ys=xs++[.int .i64 (i:Int)])
  (hg:(Wx.alloc (.cells #[.int .i64 (i:Int)] 3)).grownBy w' (Value.slice oa n oc).ownBlock):endsRel l w v' (.int .i64 ((i:Int)-1)) w':=by
 have hlt:=lt_of_block hx1
 subst hys hxs hn
 refine ⟨i,_,E.set i (zA l i:Int),rfl,by omega,hrow,by rw [List.length_set];exact hEl,fun j h1 h2=>?_,?_,?_,?_⟩
 ·rw [List.getD_eq_getElem?_getD,List.getElem?_set]
  by_cases e:i=j
  ·subst e;rw [if_pos rfl,if_pos (by omega)];rfl
  ·rw [if_neg e,← List.getD_eq_getElem?_getD];exact hE j (by omega) h2
 ·rw [hB,hg.block B (by simp;omega) (fun e=>by have:=hx2.lt B e.symm;omega),Below.heap_alloc _ _ _ hlt];exact hx1
 ·rw [hB]
  have e1:(starts i ((1+(ts.take q).sum)::ts.drop q)).reverse.map (fun (x:Nat)=>Value.int .i64 (x:Int))=((starts (i+1) ts).reverse.map fun (x:Nat)=>Value.int .i64 (x:Int)).take ((ts.length-q)*1)++[.int .i64 (i:Int)]:=by
   rw [← hst,List.reverse_cons,List.map_append,Nat.mul_one,← List.map_take,List.take_reverse,xG,show ts.length-(ts.length-q)=q by omega]
   rfl
  rw [e1,show ((1+(ts.take q).sum)::ts.drop q).length=ts.length-q+1 by rw [List.length_cons,List.length_drop]]
  exact hown
 ·rw [hB]
  exact zJv hx3 (by omega) (zOx hx2 (Nat.le_succ B)) hg
theorem zRb {l:List Prt} {i q:Nat} {ts:List Nat} (hts:zF (l.drop (i+1))=some ts) (hq:0<q) (hql:q≤ts.length) (hEi:zA l i=i+(1+(ts.take q).sum)) :
  ∃ s,i<s∧s<l.length∧zA l s=zA l i∧((starts (i+1) ts).reverse.map fun (x:Nat)=>Value.int .i64 (x:Int))[ts.length-q]?=some (.int .i64 (s:Int)):=by
 obtain ⟨r,rfl⟩:∃ r,q=r+1:=⟨q-1,by omega⟩
 have hk:=gY r hts (by omega)
 rw [List.drop_drop] at hk
 have hd:ts.drop r=ts[r]::ts.drop (r+1):=List.drop_eq_getElem_cons (by omega)
 have hsum:(ts.take (r+1)).sum=(ts.take r).sum+ts[r]:=by rw [List.take_succ_eq_append_getElem (by omega),List.sum_append];simp
 have hpos:=(yO hts).2.2 ts[r] (List.getElem_mem (by omega))
 have hh:=xX (hk.trans (congrArg some hd))
 refine ⟨i+1+(ts.take r).sum,by omega,?_,?_,?_⟩
 ·have h1:=(yO hk).1
  rw [hd,List.sum_cons,List.length_drop] at h1
  omega
 ·rw [hEi,hsum];unfold zA;rw [hh];omega
 ·have hz:=xG ts (i+1)
  rw [List.getElem?_map,List.getElem?_reverse (by omega),hz,show ts.length-1-(ts.length-(r+1))=r by omega]
  have:=gZ ts (i+1) r (by omega)
  rw [List.getD_eq_getElem?_getD,List.getElem?_eq_getElem (by omega)] at this
  rw [List.getElem?_eq_getElem (by omega)]
  simp only [Option.getD_some] at this
  rw [this];rfl
theorem zRc (l:List Prt) (hl:l.length≤1000000000) (v:Value) (w:World) (hr:zG w v l) :
  Calls Tryz.prog 77 #[v] w (endsPost l w):=by
 have HQ:Hid (∀ v' ts w',zF l=some ts→Below w.heap.size w w'→zK w' v' .i64 (endsL l)→endsPost l w (.returned (.tuple #[v',.int .i64 (ts.length:Int),.bool true])) w'):=Hd fun v' ts w' h1 h2 h3=>by
  unfold endsPost;rw [h1];exact ⟨v',rfl,h2,h3⟩
 have HN:Hid (∀ w',zF l=none→Below w.heap.size w w'→endsPost l w (.returned (.tuple #[.slice none 0 0,.int .i64 0,.bool false])) w'):=Hd fun w' h1 h2=>by
  unfold endsPost;rw [h1];exact ⟨rfl,h2⟩
 generalize endsPost l w=Q at *
 have HR:=Hd hr
 obtain ⟨va,vcap,rfl,hvc⟩:=hr.slice
 clear hr
 have hmk:=vQ l.length hl
 have hwl:IntKind.i64.wrap ((l.length:Int)-1)=(l.length:Int)-1:=wI (by omega)
 go_enter Tryz.func77,Tryz.ntmps77
 go_wp2_with fail
 have HK0:Hid ((w.alloc (.cells (Array.replicate l.length (Value.int .i64 0)) 3)).heap[w.heap.size]?=some (.cells ((List.replicate l.length (0:Int)).map (Value.int .i64)).toArray 3 (0,0))):=Hd (by
  have:=heap_alloc_new w (.cells (Array.replicate l.length (Value.int .i64 0)) 3)
  rw [this,List.map_replicate,List.toArray_replicate])
 have HB0:Hid (Below w.heap.size w (w.alloc (.cells (Array.replicate l.length (Value.int .i64 0)) 3))):=Hd ((Below.refl _ _).alloc (Nat.le_refl _) _)
 generalize w.alloc (.cells (Array.replicate l.length (Value.int .i64 0)) 3)=W0 at *
 generalize hBB:w.heap.size=B at *
 have HBB:=Hd hBB
 clear hBB
 go_loopw [6,7] (fun op j wr=>endsRel l w op j wr) (fun _ j _=>(intOf j+1).toNat)
 case atStart =>
  refine ⟨l.length,[],List.replicate l.length 0,rfl,Nat.le_refl _,by rw [List.drop_length];rfl,by simp,fun i h1 h2=>by omega,?_,?_,?_⟩
  ·rw [HBB.out];exact HK0.out
  ·exact World.ownsRow_nil _ _ _ _
  ·rw [HBB.out];exact HB0.out
 case round =>
  obtain ⟨k,ts,E,rfl,hk,hts,hEl,hEq,hh,ho,hb⟩:=hrel
  rw [HBB.out] at hh ho hb
  have HB:=Hd hb
  have HH:=Hd hh
  have HO:=Hd ho
  have HTS:=Hd hts
  have HEQ:=Hd hEq
  have HEL:=Hd hEl
  obtain ⟨_,oa,oc,rfl,hoc,_,_⟩:=Row.of_owns ho
  have htl:ts.length≤l.length:=by have:=(yO hts).2.1;rw [List.length_drop] at this;omega
  have hBlt:B<wr.heap.size:=lt_of_block hh
  clear hb hh ho hEq hEl hts
  by_cases hk0:0<k
  ·obtain ⟨i,rfl⟩:∃ i,k=i+1:=⟨k-1,by omega⟩
   rw [show (((i+1:Nat):Int)-1)=(i:Int) by omega]
   have hil:i<l.length:=hk
   obtain ⟨b,off,rfl,_,_,hbl,hcell⟩:=HR.out.at (HBB.out ▸ HB.out) (show 0<l.length by omega)
   have c0:=(hcell i hil).2.1
   have hdr:l.drop i=l[i]::l.drop (i+1):=List.drop_eq_getElem_cons hil
   have HDR:=Hd hdr
   have hi0:(0:Int)≤i:=by omega
   have hil':(i:Int)<l.length:=by omega
   have hic:(i:Int)<vcap:=by omega
   have hge:¬ (i:Int)<0:=by omega
   clear hcell hdr hk0
   have hbad:¬ (0≤(l[i]).2.1∧(l[i]).2.1≤(ts.length:Int))→zF l=none:=fun hc=>by
    cases hr:zF l with
    | none=>rfl
    | some us =>
     obtain ⟨vs,hvs⟩:=jW hr i
     rw [HDR.out,zHp HTS.out hc] at hvs
     cases hvs
   have hgood:0≤(l[i]).2.1∧(l[i]).2.1≤(ts.length:Int)→zF (l.drop i)=some ((1+(ts.take (l[i]).2.1.toNat).sum)::ts.drop (l[i]).2.1.toNat):=fun hc=>by
    rw [HDR.out];exact jA HTS.out hc.1 hc.2
   have HBAD:=Hd hbad
   have HGOOD:=Hd hgood
   have HST:=Hd (fun (h:(l[i]).2.1≤(ts.length:Int))=>zLr (p:=l[i]) i h)
   clear hbad hgood
   generalize (l[i]).2.1=x at *
   by_cases hx0:x<0
   ·go_wp2_with fail
    exact HN.out _ (HBAD.out (fun h=>by omega)) (HBB.out ▸ HB.out)
   ·by_cases hx1:(ts.length:Int)<x
    ·go_wp2_with fail
     exact HN.out _ (HBAD.out (fun h=>by omega)) (HBB.out ▸ HB.out)
    ·have hg:=HGOOD.out ⟨by omega,by omega⟩
     have hst:=HST.out (by omega)
     obtain ⟨q,rfl⟩:∃ q:Nat,x=q:=⟨x.toNat,by omega⟩
     rw [Int.toNat_natCast] at hg hst
     have HG:=Hd hg
     have HS:=Hd hst
     have hEi:zA l i=i+(1+(ts.take q).sum):=by unfold zA;rw [xX hg]
     have HEI:=Hd hEi
     clear hg hst hEi HBAD HGOOD HST
     have c1:wr.cell? ⟨B,i,none⟩=some (.int .i64 (E.getD i 0)):=by
      simp [World.cell?,HH.out,HEL.out,hil,List.getD_eq_getElem?_getD]
     have z1:wr.frozen? ⟨B,i,none⟩=false:=by simp [World.frozen?,HH.out]
     have hwi:IntKind.i64.wrap ((i:Int)+1)=(i:Int)+1:=wI (by omega)
     have hwm:IntKind.i64.wrap ((i:Int)-1)=(i:Int)-1:=wI (by omega)
     have hwq:IntKind.i64.wrap ((ts.length:Int)-(q:Int))=(ts.length:Int)-(q:Int):=wI (by omega)
     have hq0:(0:Int)≤(ts.length:Int)-(q:Int):=by omega
     have hqc:(ts.length:Int)-(q:Int)≤oc:=by omega
     have hqn:((ts.length:Int)-(q:Int)).toNat=ts.length-q:=by omega
     have hql:q≤ts.length:=by omega
     have HQL:=Hd hql
     have hs0:∀ W' u,W'=wr.setCell ⟨B,i,none⟩ u→W'.ownsRow (B+1) 3 1 (.slice oa ts.length oc) ts.length ((starts (i+1) ts).reverse.map fun (x:Nat)=>Value.int .i64 (x:Int))∧Below B w W':=fun W' u e=>by
      subst e
      exact ⟨ownsRow_setCell_below HO.out (Nat.lt_succ_self B) u,HB.out.setCell (p:=⟨B,i,none⟩) (Nat.le_refl _) u⟩
     have hh1:∀ x:Int,(wr.setCell ⟨B,i,none⟩ (.int .i64 x)).heap[B]?=some (.cells ((E.set i x).map (Value.int .i64)).toArray 3 (0,0)):=fun x=>by
      rw [heap_setCell_same _ _ _ _ _ _ HH.out,List.setIfInBounds_toArray,← List.map_set]
     by_cases hq:0<q
     ·obtain ⟨s,hs1,hs2,hs3,hs4⟩:=zRb HTS.out hq hql HEI.out
      obtain ⟨g,rfl⟩:=xF HO.out (by omega)
      obtain ⟨g1,g2⟩:=hs0 _ (.int .i64 ((i:Int)+1)) rfl
      have c2:(wr.setCell ⟨B,i,none⟩ (.int .i64 ((i:Int)+1))).cell? ⟨g,ts.length-q,none⟩=some (.int .i64 (s:Int)):=by
       rw [g1.cellAt _ (by omega)];exact hs4
      have c3:(wr.setCell ⟨B,i,none⟩ (.int .i64 ((i:Int)+1))).cell? ⟨B,s,none⟩=some (.int .i64 (zA l i:Int)):=by
       have:=HEQ.out s hs1 hs2
       rw [hs3] at this
       rw [List.getD_eq_getElem?_getD] at this
       simp only [World.cell?,hh1]
       rw [← this]
       simp [HEL.out,hs2,show ¬ i=s by omega]
      have c4:(wr.setCell ⟨B,i,none⟩ (.int .i64 ((i:Int)+1))).cell? ⟨B,i,none⟩=some (.int .i64 ((i:Int)+1)):=by
       simp only [World.cell?,hh1]
       simp [HEL.out,hil]
      have z4:(wr.setCell ⟨B,i,none⟩ (.int .i64 ((i:Int)+1))).frozen? ⟨B,i,none⟩=false:=by simp [World.frozen?,hh1]
      have HX1:Hid (((wr.setCell ⟨B,i,none⟩ (.int .i64 ((i:Int)+1))).setCell ⟨B,i,none⟩ (.int .i64 (zA l i:Int))).heap[B]?=some (.cells ((E.set i (zA l i:Int)).map (Value.int .i64)).toArray 3 (0,0))):=Hd (by
       rw [heap_setCell_same _ _ _ _ _ _ (hh1 _),List.setIfInBounds_toArray,← List.map_set,List.set_set])
      have HX2:=Hd (kT (ownsRow_setCell_below g1 (a:=⟨B,i,none⟩) (Nat.lt_succ_self B) (.int .i64 (zA l i:Int))) (k:=ts.length-q) (by omega))
      have HXB:=Hd (g2.setCell (p:=⟨B,i,none⟩) (Nat.le_refl _) (.int .i64 (zA l i:Int)))
      have hsz:B+1≤((wr.setCell ⟨B,i,none⟩ (.int .i64 ((i:Int)+1))).setCell ⟨B,i,none⟩ (.int .i64 (zA l i:Int))).heap.size:=by simp;omega
      have hq0i:(0:Int)<(q:Int):=by omega
      have hq1i:(ts.length:Int)-(q:Int)<ts.length:=by omega
      have hs0i:(0:Int)≤(s:Int):=by omega
      have hs2i:(s:Int)<l.length:=by omega
      clear hs4 hs3 g1 g2 hs0 hh1
      have HEJ:Hid (∃ z,z=zA l i):=Hd ⟨_,rfl⟩
      generalize hee:zA l i=ee at *
      have HEE:=Hd hee
      clear hee
      go_upto_region 12 with (fail)
      clear c2 c3 c4 z4 c1 z1 c0
      generalize (wr.setCell ⟨B,i,none⟩ (.int .i64 ((i:Int)+1))).setCell ⟨B,i,none⟩ (.int .i64 (ee:Int))=Wx at *
      go_wp2_with (at_builtin;refine vX Wx #[.int .i64 (i:Int)] _ rfl _ _ 27 3 rfl Tryz.underlying27 (B+1) vW rfl (by decide) _ _ _ rfl HX2.out 1 1 rfl rfl (by decide) (by intro u hu;simp at hu;subst hu;rfl) (by omega) (by omega) hsz ?_)
      intro v' w' hown hgr _
      obtain ⟨_,va',vc',rfl,_,_,_⟩:=Row.of_owns hown
      have HX1':Hid (Wx.heap[B]?=some (.cells ((E.set i (zA l i:Int)).map (Value.int .i64)).toArray 3 (0,0))):=Hd (by rw [HEE.out];exact HX1.out)
      have HR1:=Hd (zFp HBB.out hil HG.out HS.out HQL.out HEL.out HEQ.out HX1'.out HXB.out (ts.length-q) rfl _ _ rfl HX2.out hown (by simp) hgr)
      clear hown hgr
      go_wp2_with fail
      refine ⟨HR1.out,?_⟩
      simp only [intOf];omega
     ·obtain rfl:q=0:=by omega
      obtain ⟨g1,g2⟩:=hs0 _ (.int .i64 ((i:Int)+1)) rfl
      have hX2:=kT g1 (k:=ts.length) (Nat.le_refl _)
      have HX2:=Hd hX2
      have HXB:=Hd g2
      have HX1:Hid ((wr.setCell ⟨B,i,none⟩ (.int .i64 ((i:Int)+1))).heap[B]?=some (.cells ((E.set i (zA l i:Int)).map (Value.int .i64)).toArray 3 (0,0))):=Hd (by
       rw [HEI.out,List.take_zero,List.sum_nil];exact hh1 _)
      have hsz:B+1≤(wr.setCell ⟨B,i,none⟩ (.int .i64 ((i:Int)+1))).heap.size:=by simp;omega
      clear hX2 g1 g2 hs0 hh1
      go_upto_region 12 with (fail)
      generalize wr.setCell ⟨B,i,none⟩ (.int .i64 ((i:Int)+1))=Wx at *
      go_wp2_with (at_builtin;refine vX Wx #[.int .i64 (i:Int)] _ rfl _ _ 27 3 rfl Tryz.underlying27 (B+1) vW rfl (by decide) _ _ _ rfl HX2.out 1 1 rfl rfl (by decide) (by intro u hu;simp at hu;subst hu;rfl) (by omega) (by omega) hsz ?_)
      intro v' w' hown hgr _
      obtain ⟨_,va',vc',rfl,_,_,_⟩:=Row.of_owns hown
      have HR1:=Hd (zFp HBB.out hil HG.out HS.out (Nat.zero_le _) HEL.out HEQ.out HX1.out HXB.out ts.length (Nat.sub_zero _).symm _ _ rfl HX2.out hown (by simp) hgr)
      clear hown hgr
      go_wp2_with fail
      refine ⟨HR1.out,?_⟩
      simp only [intOf];omega
  ·obtain rfl:k=0:=by omega
   rw [show (((0:Nat):Int)-1)=-1 by rfl]
   go_wp2_with fail
   have hEL:E=endsL l:=by
    apply List.ext_getElem
    ·rw [HEL.out];simp [endsL]
    ·intro i h1 h2
     have:=HEQ.out i (Nat.zero_le _) (by rw [← HEL.out];exact h1)
     rw [List.getD_eq_getElem?_getD,List.getElem?_eq_getElem h1] at this
     simp only [Option.getD_some] at this
     rw [this]
     simp [endsL]
   show Q (.returned (.tuple #[.slice (some ⟨B,0,none⟩) l.length l.length,.int .i64 (ts.length:Int),.bool true])) wr
   refine HQ.out _ ts _ (by have:=HTS.out;rwa [List.drop_zero] at this) (HBB.out ▸ HB.out) ?_
   have hh:=HH.out
   rw [hEL] at hh
   have hz:(endsL l).length=l.length:=by simp [endsL]
   refine ⟨by simp,_,_,by rw [hz],by rw [hz];exact Nat.le_refl _,by simp,fun hn=>⟨B,0,rfl,hBlt,fun i hi=>?_⟩⟩
   rw [Nat.zero_add]
   simp only [World.cell?,hh]
   simp
@[irreducible] def wellPost (l:List Prt) (w0:World) (e:Ending) (w':World):Prop :=
 ∃ v,e=.returned (.tuple #[v,.bool (zZ l)])∧Below w0.heap.size w0 w'∧(zZ l=true→zK w' v .i64 (endsL l))∧∃ a n c,v=.slice a n c
theorem zUj {l:List Prt} {ts:List Nat} (h:zF l=some ts):zZ l=decide (ts.length=1):=by
 unfold zZ
 rw [h]
 match ts with
 | []=>rfl
 | [_]=>rfl
 | _::_::_=>simp
theorem zNt {l:List Prt} (h:zF l=none):zZ l=false:=by unfold zZ;rw [h]
theorem zRd (l:List Prt) (hl:l.length≤1000000000) (v:Value) (w:World) (hr:zG w v l) :
  Calls Tryz.prog 59 #[v] w (wellPost l w):=by
 have HQ:Hid (∀ v' x w',zZ l=x→Below w.heap.size w w'→(zZ l=true→zK w' v' .i64 (endsL l))→(∃ a n c,v'=.slice a n c)→wellPost l w (.returned (.tuple #[v',.bool x])) w'):=Hd fun v' x w' h1 h2 h3 h4=>by
  unfold wellPost;rw [h1];exact ⟨v',rfl,h2,by rw [← h1];exact h3,h4⟩
 generalize wellPost l w=Q at *
 have C1:=Hd (zRc l hl v w hr)
 obtain ⟨va,vcap,rfl,hvc⟩:=hr.slice
 clear hr
 go_enter Tryz.func59,Tryz.ntmps59
 go_wp2_with fail
 refine C1.out.mono ?_
 intro e w1 h1
 unfold endsPost at h1
 cases hrow:zF l with
 | some ts =>
  rw [hrow] at h1
  obtain ⟨v1,rfl,hb1,hr1⟩:=h1
  have HB1:=Hd hb1
  have HR1:=Hd hr1
  have hw:=zUj hrow
  obtain ⟨a1,c1,rfl,_,_⟩:=hr1.open'
  clear hb1 hr1 C1
  by_cases ht:ts.length=1
  ·have htb:((ts.length:Int) == 1)=true:=by rw [beq_iff_eq];omega
   have HW:=Hd (hw.trans (decide_eq_true ht))
   clear hw ht
   go_wp2_with fail
   exact HQ.out _ _ _ HW.out HB1.out (fun _=>HR1.out) ⟨_,_,_,rfl⟩
  ·have htb:((ts.length:Int) == 1)=false:=by rw [beq_eq_false_iff_ne];omega
   have HW:=Hd (hw.trans (decide_eq_false ht))
   clear hw ht
   go_wp2_with fail
   exact HQ.out _ _ _ HW.out HB1.out (fun _=>HR1.out) ⟨_,_,_,rfl⟩
 | none =>
  rw [hrow] at h1
  obtain ⟨rfl,hb1⟩:=h1
  have HB1:=Hd hb1
  have HW:=Hd (zNt hrow)
  clear hb1 C1
  go_wp2_with fail
  exact HQ.out _ _ _ HW.out HB1.out (fun h=>by rw [HW.out] at h;cases h) ⟨_,_,_,rfl⟩
theorem jR (l:List Prt) (hl:l.length≤1000000000) (v:Value) (w:World) (hr:zG w v l) :
  Calls Tryz.prog 34 #[v] w fun e w'=>e=.returned (.bool (zZ l))∧Below w.heap.size w w':=by
 have HQ:Hid (∀ w',Below w.heap.size w w'→(fun (e:Ending) w'=>e=.returned (.bool (zZ l))∧Below w.heap.size w w') (.returned (.bool (zZ l))) w'):=Hd fun w' h=>⟨rfl,h⟩
 generalize (fun (e:Ending) w'=>e=.returned (.bool (zZ l))∧Below w.heap.size w w')=Q at *
 have C1:=Hd (zRd l hl v w hr)
 obtain ⟨va,vcap,rfl,hvc⟩:=hr.slice
 clear hr
 go_enter Tryz.func34,Tryz.ntmps34
 go_wp2_with fail
 refine C1.out.mono ?_
 intro e w1 h1
 unfold wellPost at h1
 obtain ⟨v1,rfl,hb1,_,a1,n1,c1,rfl⟩:=h1
 have HB1:=Hd hb1
 clear hb1 C1
 generalize zZ l=x at *
 go_wp2_with fail
 show Q (.returned (.bool x)) _
 exact HQ.out _ HB1.out
end Go.Proofs.YtfalelkfhandfaaGreatDoor
namespace Go.Proofs.YtfalelkfhandfaaGreatDoor
set_option maxRecDepth 100000
set_option maxHeartbeats 32000000
set_option linter.all false
open Go.RowKit

theorem drewB {B:Nat} {a w:World} (h:Below B a w) (n:Nat):Below B a (w.drewN n):=⟨h.os,h.tape,h.output,h.size,h.block⟩
def TellsEq (x:Bool) (a b:List Prt):Prop:=x=true↔a=b
def PK (W:World) (g:Nat) (p:Prt):Prop:=W.heap[g]?=some (.cells #[.int .u8 (p.1:Int),.int .i64 p.2.1,.string p.2.2] 38 (0,0))
theorem PK.c0 {W:World} {g:Nat} {p:Prt} (h:PK W g p):W.cell? ⟨g,0,none⟩=some (.int .u8 (p.1:Int)):=by unfold PK at h;simp [World.cell?,h]
theorem PK.c1 {W:World} {g:Nat} {p:Prt} (h:PK W g p):W.cell? ⟨g,1,none⟩=some (.int .i64 p.2.1):=by unfold PK at h;simp [World.cell?,h]
theorem PK.c2 {W:World} {g:Nat} {p:Prt} (h:PK W g p):W.cell? ⟨g,2,none⟩=some (.string p.2.2):=by unfold PK at h;simp [World.cell?,h]
theorem PK.fz {W:World} {g:Nat} {p:Prt} (h:PK W g p) (i:Nat):W.frozen? ⟨g,i,none⟩=false:=by unfold PK at h;simp [World.frozen?,h]
theorem PK.keep {W W':World} {g:Nat} {p:Prt} (h:PK W g p) (hb:Below W.heap.size W W'):PK W' g p:=by unfold PK at h ⊢;rw [hb.block g (lt_of_block h)];exact h
theorem PK.alloc_new (W:World) (p:Prt):PK (W.alloc (.cells #[.int .u8 (p.1:Int),.int .i64 p.2.1,.string p.2.2] 38)) W.heap.size p:=by unfold PK;exact heap_alloc_new _ _
def sameRel (a b:List Prt) (w:World) (i:Value) (wr:World):Prop:=∃ k:Nat,i=.int .i64 (k:Int)∧k≤a.length∧a.take k=b.take k∧Below w.heap.size w wr
theorem zFq (v1 v2:Value) (a b:List Prt) (hla:a.length≤1000000000) (hlb2:b.length≤1000000000) (w:World) (hr1:zG w v1 a) (hr2:zG w v2 b) :
  Calls Tryz.prog 9 #[v1,v2] w fun e w'=>∃ x,e=.returned (.bool x)∧TellsEq x a b∧Below w.heap.size w w':=by
 have HQ:Hid (∀ x w',TellsEq x a b→Below w.heap.size w w'→(fun (e:Ending) w'=>∃ x,e=.returned (.bool x)∧TellsEq x a b∧Below w.heap.size w w') (.returned (.bool x)) w'):=Hd fun x w' h h2=>⟨x,rfl,h,h2⟩
 generalize (fun (e:Ending) w'=>∃ x,e=.returned (.bool x)∧TellsEq x a b∧Below w.heap.size w w')=Q at *
 have HR1:=Hd hr1
 have HR2:=Hd hr2
 obtain ⟨a1,cap1,rfl,hcap1⟩:=hr1.slice
 obtain ⟨a2,cap2,rfl,hcap2⟩:=hr2.slice
 clear hr1 hr2
 go_enter Tryz.func9,Tryz.ntmps9
 by_cases hl:a.length=b.length
 ·have hlb:((a.length:Int) == (b.length:Int))=true:=by rw [beq_iff_eq];omega
  have hlc:((a.length:Int) != (b.length:Int))=false:=by rw [bne_eq_false_iff_eq];omega
  have hld:(a.length != b.length)=false:=by rw [bne_eq_false_iff_eq];exact hl
  have HL:=Hd hl
  clear hl
  go_wp2_with fail
  go_loopw [5] (fun i wr=>sameRel a b w i wr) (fun i _=>a.length-(intOf i).toNat)
  case atStart=>exact ⟨0,rfl,Nat.zero_le _,rfl,Below.refl _ _⟩
  case round =>
   obtain ⟨k,rfl,hk,htk,hb⟩:=hrel
   have HB:=Hd hb
   have HTK:=Hd htk
   clear hb htk
   by_cases hlt:k<a.length
   ·have hlt':(k:Int)<a.length:=by omega
    have hkb:k<b.length:=by have:=HL.out;omega
    obtain ⟨b1,o1,rfl,_,_,_,hc1⟩:=HR1.out.at HB.out (show 0<a.length by omega)
    obtain ⟨b2,o2,rfl,_,_,_,hc2⟩:=HR2.out.at HB.out (show 0<b.length by omega)
    obtain ⟨d0,d1,d2⟩:=hc1 k hlt
    obtain ⟨e0,e1,e2⟩:=hc2 k hkb
    have hk0:(0:Int)≤k:=by omega
    have hlt2:(k:Int)<b.length:=by omega
    have hkc1:(k:Int)<cap1:=by omega
    have hkc2:(k:Int)<cap2:=by omega
    have hwk:IntKind.i64.wrap ((k:Int)+1)=((k+1:Nat):Int):=wI (by omega)
    have HK1:Hid (k+1≤a.length):=Hd hlt
    have HML:Hid (a.length-(k+1)<a.length-k):=Hd (by omega)
    have HX:=Hd (fun (h:a[k]=b[k])=>show a.take (k+1)=b.take (k+1) by
     rw [List.take_succ_eq_append_getElem hlt,List.take_succ_eq_append_getElem hkb,HTK.out];exact congrArg (fun z=>List.take k b++[z]) h)
    have HY:=Hd (fun (h:a[k]≠b[k])=>show TellsEq false a b from ⟨(fun e=>by cases e),fun e=>absurd (by subst e;rfl) h⟩)
    clear hc1 hc2
    generalize a[k]=x at *
    generalize hye:b[k]=y at *
    have HYE:=Hd hye
    clear hye
    obtain ⟨xk,xn,xw⟩:=x
    obtain ⟨yk,yn,yw⟩:=y
    simp only [] at d0 d1 d2 e0 e1 e2
    have HB1:=HB
    by_cases hE:xk=yk∧xn=yn∧xw=yw
    ·obtain ⟨rfl,rfl,rfl⟩:=hE
     have HTK1:=Hd (HX.out rfl)
     clear HX HY
     go_wp2_with fail
     go_quiet (fail)
     have HB2:=Hd (drewB HB1.out nq)
     go_wp2_with fail
     have HR:Hid (sameRel a b w (.int .i64 ((k+1:Nat):Int)) _):=Hd ⟨k+1,rfl,HK1.out,HTK1.out,HB2.out⟩
     refine ⟨?_,(by have:=HML.out;simp [intOf];try omega)⟩
     first
      | exact HR.out
      | (repeat apply Exists.intro
         refine ⟨?_,rfl⟩
         exact HR.out)
    ·have HF:=Hd (HY.out (fun e=>hE (by simp only [Prod.mk.injEq] at e;exact e)))
     clear HX HY
     have hcs:xk≠yk∨(xk=yk∧xn≠yn)∨(xk=yk∧xn=yn∧xw≠yw):=by
      by_cases h1:xk=yk
      ·by_cases h2:xn=yn
       ·exact Or.inr (Or.inr ⟨h1,h2,fun h3=>hE ⟨h1,h2,h3⟩⟩)
       ·exact Or.inr (Or.inl ⟨h1,h2⟩)
      ·exact Or.inl h1
     clear hE
     rcases hcs with h1 | ⟨rfl,h2⟩ | ⟨rfl,rfl,h3⟩
     ·have f1:((xk:Int) == (yk:Int))=false:=by rw [beq_eq_false_iff_ne];omega
      have f2:(xk == yk)=false:=by rw [beq_eq_false_iff_ne];exact h1
      go_wp2_with fail
      go_quiet (fail)
      have HB2:=Hd (drewB HB1.out nq)
      go_wp2_with fail
      exact HQ.out _ _ HF.out HB2.out
     ·have f1:(xn == yn)=false:=by rw [beq_eq_false_iff_ne];exact h2
      go_wp2_with fail
      go_quiet (fail)
      have HB2:=Hd (drewB HB1.out nq)
      go_wp2_with fail
      exact HQ.out _ _ HF.out HB2.out
     ·have f1:(xw.toList == yw.toList)=false:=by
       rw [beq_eq_false_iff_ne];intro e
       rw [ByteArray.toList_eq,ByteArray.toList_eq] at e
       exact h3 (ByteArray.ext (Array.ext' e))
      go_wp2_with fail
      go_quiet (fail)
      have HB2:=Hd (drewB HB1.out nq)
      go_wp2_with fail
      exact HQ.out _ _ HF.out HB2.out
   ·have hlt':¬ (k:Int)<a.length:=by omega
    have HF:Hid (TellsEq true a b):=Hd ⟨fun _=>by
     have h:=HTK.out
     have hl:=HL.out
     rw [List.take_of_length_le (by omega),List.take_of_length_le (by omega)] at h
     exact h,fun _=>rfl⟩
    go_wp2_with fail
    exact HQ.out _ _ HF.out HB.out
 ·have hlb:((a.length:Int) == (b.length:Int))=false:=by rw [beq_eq_false_iff_ne];omega
  have hlc:((a.length:Int) != (b.length:Int))=true:=by rw [bne_iff_ne];omega
  have hld:(a.length != b.length)=true:=by rw [bne_iff_ne];exact hl
  have HF:Hid (TellsEq false a b):=Hd ⟨(fun e=>by cases e),fun e=>absurd (by rw [e]) hl⟩
  go_wp2_with fail
  exact HQ.out _ _ HF.out (Below.refl _ _)
theorem zRf (v1 v2:Value) (a b:List Prt) (hla:a.length≤1000000000) (hlb2:b.length≤1000000000) (w:World) (hr1:zG w v1 a) (hr2:zG w v2 b) :
  Calls Tryz.prog 152 #[v1,v2] w fun e w'=>∃ x,e=.returned (.bool x)∧TellsEq x a b∧Below w.heap.size w w':=by
 have HQ:Hid (∀ x w',TellsEq x a b→Below w.heap.size w w'→(fun (e:Ending) w'=>∃ x,e=.returned (.bool x)∧TellsEq x a b∧Below w.heap.size w w') (.returned (.bool x)) w'):=Hd fun x w' h h2=>⟨x,rfl,h,h2⟩
 generalize (fun (e:Ending) w'=>∃ x,e=.returned (.bool x)∧TellsEq x a b∧Below w.heap.size w w')=Q at *
 have HR1:=Hd hr1
 have HR2:=Hd hr2
 obtain ⟨a1,cap1,rfl,hcap1⟩:=hr1.slice
 obtain ⟨a2,cap2,rfl,hcap2⟩:=hr2.slice
 clear hr1 hr2
 go_enter Tryz.func152,Tryz.ntmps152
 by_cases hl:a.length=b.length
 ·have hlb:((a.length:Int) == (b.length:Int))=true:=by rw [beq_iff_eq];omega
  have hlc:((a.length:Int) != (b.length:Int))=false:=by rw [bne_eq_false_iff_eq];omega
  have hld:(a.length != b.length)=false:=by rw [bne_eq_false_iff_eq];exact hl
  have HL:=Hd hl
  clear hl
  go_wp2_with fail
  go_loopw [14] (fun i wr=>sameRel a b w i wr) (fun i _=>a.length-(intOf i).toNat)
  case atStart=>exact ⟨0,rfl,Nat.zero_le _,rfl,Below.refl _ _⟩
  case round =>
   obtain ⟨k,rfl,hk,htk,hb⟩:=hrel
   have HB:=Hd hb
   have HTK:=Hd htk
   clear hb htk
   by_cases hlt:k<a.length
   ·have hlt':(k:Int)<a.length:=by omega
    have hkb:k<b.length:=by have:=HL.out;omega
    obtain ⟨b1,o1,rfl,_,_,_,hc1⟩:=HR1.out.at HB.out (show 0<a.length by omega)
    obtain ⟨b2,o2,rfl,_,_,_,hc2⟩:=HR2.out.at HB.out (show 0<b.length by omega)
    obtain ⟨d0,d1,d2⟩:=hc1 k hlt
    obtain ⟨e0,e1,e2⟩:=hc2 k hkb
    have hk0:(0:Int)≤k:=by omega
    have hlt2:(k:Int)<b.length:=by omega
    have hkc1:(k:Int)<cap1:=by omega
    have hkc2:(k:Int)<cap2:=by omega
    have hwk:IntKind.i64.wrap ((k:Int)+1)=((k+1:Nat):Int):=wI (by omega)
    have HK1:Hid (k+1≤a.length):=Hd hlt
    have HML:Hid (a.length-(k+1)<a.length-k):=Hd (by omega)
    have HX:=Hd (fun (h:a[k]=b[k])=>show a.take (k+1)=b.take (k+1) by
     rw [List.take_succ_eq_append_getElem hlt,List.take_succ_eq_append_getElem hkb,HTK.out];exact congrArg (fun z=>List.take k b++[z]) h)
    have HY:=Hd (fun (h:a[k]≠b[k])=>show TellsEq false a b from ⟨(fun e=>by cases e),fun e=>absurd (by subst e;rfl) h⟩)
    clear hc1 hc2
    generalize a[k]=x at *
    generalize hye:b[k]=y at *
    have HYE:=Hd hye
    clear hye
    obtain ⟨xk,xn,xw⟩:=x
    obtain ⟨yk,yn,yw⟩:=y
    simp only [] at d0 d1 d2 e0 e1 e2
    have hA:Below wr.heap.size wr (wr.alloc (.cells #[.int .u8 (xk:Int),.int .i64 xn,.string xw] 38)):=(Below.refl _ _).alloc (Nat.le_refl _) _
    obtain ⟨b2',o2',hbb,_,_,_,hc2⟩:=HR2.out.at (HB.out.trans (hA.mono HB.out.size)) (show 0<b.length by omega)
    simp only [Option.some.injEq,Addr.mk.injEq,and_true] at hbb
    obtain ⟨rfl,rfl⟩:=hbb
    have hA2:=hc2 k hkb
    rw [HYE.out] at hA2
    obtain ⟨e0',e1',e2'⟩:=hA2
    have HPK:=PK.alloc_new wr (xk,xn,xw)
    have p0:=HPK.c0;have p1:=HPK.c1;have p2:=HPK.c2
    have HB1:=Hd (HB.out.trans (hA.mono HB.out.size))
    clear hA HPK hc2
    by_cases hE:xk=yk∧xn=yn∧xw=yw
    ·obtain ⟨rfl,rfl,rfl⟩:=hE
     have HTK1:=Hd (HX.out rfl)
     clear HX HY
     go_wp2_with fail
     go_quiet (fail)
     have HB2:=Hd (drewB HB1.out nq)
     go_wp2_with fail
     have HR:Hid (sameRel a b w (.int .i64 ((k+1:Nat):Int)) _):=Hd ⟨k+1,rfl,HK1.out,HTK1.out,HB2.out⟩
     refine ⟨?_,(by have:=HML.out;simp [intOf];try omega)⟩
     first
      | exact HR.out
      | (repeat apply Exists.intro
         refine ⟨?_,rfl⟩
         exact HR.out)
    ·have HF:=Hd (HY.out (fun e=>hE (by simp only [Prod.mk.injEq] at e;exact e)))
     clear HX HY
     have hcs:xk≠yk∨(xk=yk∧xn≠yn)∨(xk=yk∧xn=yn∧xw≠yw):=by
      by_cases h1:xk=yk
      ·by_cases h2:xn=yn
       ·exact Or.inr (Or.inr ⟨h1,h2,fun h3=>hE ⟨h1,h2,h3⟩⟩)
       ·exact Or.inr (Or.inl ⟨h1,h2⟩)
      ·exact Or.inl h1
     clear hE
     rcases hcs with h1 | ⟨rfl,h2⟩ | ⟨rfl,rfl,h3⟩
     ·have f1:((xk:Int) == (yk:Int))=false:=by rw [beq_eq_false_iff_ne];omega
      have f2:(xk == yk)=false:=by rw [beq_eq_false_iff_ne];exact h1
      go_wp2_with fail
      go_quiet (fail)
      have HB2:=Hd (drewB HB1.out nq)
      go_wp2_with fail
      exact HQ.out _ _ HF.out HB2.out
     ·have f1:(xn == yn)=false:=by rw [beq_eq_false_iff_ne];exact h2
      go_wp2_with fail
      go_quiet (fail)
      have HB2:=Hd (drewB HB1.out nq)
      go_wp2_with fail
      exact HQ.out _ _ HF.out HB2.out
     ·have f1:(xw.toList == yw.toList)=false:=by
       rw [beq_eq_false_iff_ne];intro e
       rw [ByteArray.toList_eq,ByteArray.toList_eq] at e
       exact h3 (ByteArray.ext (Array.ext' e))
      go_wp2_with fail
      go_quiet (fail)
      have HB2:=Hd (drewB HB1.out nq)
      go_wp2_with fail
      exact HQ.out _ _ HF.out HB2.out
   ·have hlt':¬ (k:Int)<a.length:=by omega
    have HF:Hid (TellsEq true a b):=Hd ⟨fun _=>by
     have h:=HTK.out
     have hl:=HL.out
     rw [List.take_of_length_le (by omega),List.take_of_length_le (by omega)] at h
     exact h,fun _=>rfl⟩
    go_wp2_with fail
    exact HQ.out _ _ HF.out HB.out
 ·have hlb:((a.length:Int) == (b.length:Int))=false:=by rw [beq_eq_false_iff_ne];omega
  have hlc:((a.length:Int) != (b.length:Int))=true:=by rw [bne_iff_ne];omega
  have hld:(a.length != b.length)=true:=by rw [bne_iff_ne];exact hl
  have HF:Hid (TellsEq false a b):=Hd ⟨(fun e=>by cases e),fun e=>absurd (by rw [e]) hl⟩
  go_wp2_with fail
  exact HQ.out _ _ HF.out (Below.refl _ _)
end Go.Proofs.YtfalelkfhandfaaGreatDoor
