/- Short forms for walks of drawn regions. -/
import Derived.Test.YtfalelkfhandfaaGreatDoorCoreMs
import Derived.Deep.RegionHeld3
namespace Go.Proofs.YtfalelkfhandfaaGreatDoor
set_option linter.all false
open Go Go.RowKit

theorem aP:(∀ (a:Act) (d:Nat) (v:Value),a.put (some d) v={ a with tmps:=a.tmps.setIfInBounds d v })∧(∀ (a:Act) (v:Value),a.put none v=a)∧(∀ (l:List Value) (i:Nat) (v:Value),l.toArray.setIfInBounds i v=(l.set i v).toArray)∧(∀ (x:Value) (l:List Value) (v:Value),(x::l).set 0 v=v::l)∧∀ (x:Value) (l:List Value) (i:Nat) (v:Value),(x::l).set (i+1) v=x::l.set i v :=
 ⟨fun _ _ _=>rfl,fun _ _=>rfl,fun _ _ _=>List.setIfInBounds_toArray ..,fun _ _ _=>rfl,fun _ _ _ _=>rfl⟩
theorem wI {z y:Int} (h:z=y∧-9223372036854775808≤z∧z<9223372036854775808):IntKind.i64.wrap z=y:=by rw [IntKind.wrap_i64];omega
theorem mB {P:Program} {f:FuncId} {args:Array Value} {w w0:World} {v:Ending} {Q:Ending→World→Prop} (h:Calls P f args w fun e w'=>e=v∧Below w.heap.size w w') (hb:Below w0.heap.size w0 w) (k:∀ w',RowKit.Hid (Below w0.heap.size w0 w')→Q v w'):Calls P f args w Q :=
 h.mono fun e w' g=>by obtain ⟨rfl,g⟩:=g;exact k w' (Hd (zB hb g))
section
variable {P:Program} {ops:Array Oper} {Q:Exit→Act→World→Prop} {md:Region.Mode} {S:World→Prop}
theorem tkH (i d:Nat) (v:Value) {op:Op} {ty:TypeId} {pos:String} {after:Array Edge} {guard:Option (Tmp×Bool)} {fuel:Nat} {L:Array Bool} {a:Act} {w:World} (hi:ops[i]?=some ⟨some d,op,ty,pos,after,guard⟩) (hy:∀ w,S w→(execOp a.eval ⟨some d,op,ty,pos,after,guard⟩).run P w=.ok (.value v) w) (hS:S w) (h:wpAnyH P md ops Q S fuel (L.setIfInBounds i true) (a.put (some d) v) w)
  (hk:(Region.noSelect ops&&(Region.free md ops L i&&(Region.ready md ops L).contains i))=true:=by kernel_rfl) (hw:Region.wanted ⟨some d,op,ty,pos,after,guard⟩ (yielded ops a.tmps)=true:=by kernel_rfl) (hQ:∀ c a w,Q (.panic c) (a.put (some d) v) w→Q (.panic c) a w:=by exact fun _ _ _ h=>h):wpAnyH P md ops Q S (fuel+1) L a w :=
 have h1:=Bool.and_eq_true_iff.1 hk
 have h2:=Bool.and_eq_true_iff.1 h1.2
 wpAnyH_take hi h1.1 h2.1 h2.2 hQ (Or.inl ⟨hw,hy⟩) hS h
theorem skH (i d:Nat) {op:Op} {ty:TypeId} {pos:String} {after:Array Edge} {guard:Option (Tmp×Bool)} {fuel:Nat} {L:Array Bool} {a:Act} {w:World} (hi:ops[i]?=some ⟨some d,op,ty,pos,after,guard⟩) (hS:S w) (h:wpAnyH P md ops Q S fuel (L.setIfInBounds i true) (a.put (some d) undef) w)
  (hk:(Region.noSelect ops&&(Region.free md ops L i&&(Region.ready md ops L).contains i))=true:=by kernel_rfl) (hw:Region.wanted ⟨some d,op,ty,pos,after,guard⟩ (yielded ops a.tmps)=false:=by kernel_rfl) (hQ:∀ c a w,Q (.panic c) (a.put (some d) undef) w→Q (.panic c) a w:=by exact fun _ _ _ h=>h):wpAnyH P md ops Q S (fuel+1) L a w :=
 have h1:=Bool.and_eq_true_iff.1 hk
 have h2:=Bool.and_eq_true_iff.1 h1.2
 wpAnyH_take hi h1.1 h2.1 h2.2 hQ (Or.inr ⟨hw,rfl⟩) hS h
end
end Go.Proofs.YtfalelkfhandfaaGreatDoor
namespace Go.Proofs.YtfalelkfhandfaaGreatDoor
set_option linter.all false

abbrev Prt:=Nat×Int×ByteArray
def zG:List Prt→Option (List Nat)
 | []=>some []
 | p::r=>match zG r with
  | none=>none
  | some ts=>if 0≤p.2.1∧p.2.1≤(ts.length:Int) then some ((1+(ts.take p.2.1.toNat).sum)::ts.drop p.2.1.toNat) else none
theorem jC:zG []=some []:=rfl
theorem fE {p:Prt} {r:List Prt} {ts:List Nat} (h:zG r=some ts) (h0:0≤p.2.1) (h1:p.2.1≤(ts.length:Int)):zG (p::r)=some ((1+(ts.take p.2.1.toNat).sum)::ts.drop p.2.1.toNat):=by
 rw [zG,h];exact if_pos ⟨h0,h1⟩
theorem zKw {p:Prt} {r:List Prt} {ts:List Nat} (h:zG r=some ts) (h0:¬ (0≤p.2.1∧p.2.1≤(ts.length:Int))):zG (p::r)=none:=by
 rw [zG,h];exact if_neg h0
theorem zRj {p:Prt} {r:List Prt} (h:zG r=none):zG (p::r)=none:=by rw [zG,h]
theorem jW {p:Prt} {r:List Prt} {q:List Nat} (h:zG (p::r)=some q):∃ ts,zG r=some ts∧0≤p.2.1∧p.2.1≤(ts.length:Int)∧q=(1+(ts.take p.2.1.toNat).sum)::ts.drop p.2.1.toNat:=by
 cases hr:zG r with
 | none=>rw [zRj hr] at h;cases h
 | some ts =>
  by_cases hc:0≤p.2.1∧p.2.1≤(ts.length:Int)
  ·rw [fE hr hc.1 hc.2] at h
   exact ⟨ts,rfl,hc.1,hc.2,(Option.some.inj h).symm⟩
  ·rw [zKw hr hc] at h;cases h
theorem kQ:∀ (l:List Nat) (a b:Nat),(l.take (a+b)).sum=(l.take a).sum+((l.drop a).take b).sum
 | [],a,b=>by simp
 | x::l,0,b=>by simp
 | x::l,a+1,b=>by
  rw [show a+1+b=(a+b)+1 by omega,List.take_succ_cons,List.take_succ_cons,List.drop_succ_cons,List.sum_cons,List.sum_cons,kQ l a b];omega
theorem zUx (l:List Nat) (k:Nat):l.sum=(l.take k).sum+(l.drop k).sum:=by
 conv=>lhs;rw [← List.take_append_drop k l]
 rw [List.sum_append]
theorem yM:∀ {l:List Prt} {ts:List Nat},zG l=some ts→ts.sum=l.length∧ts.length≤l.length∧∀ t∈ts,0<t
 | [],ts,h=>by rw [jC] at h;cases h;simp
 | p::r,ts,h=>by
  obtain ⟨us,h1,h2,h3,rfl⟩:=jW h
  obtain ⟨g1,g2,g3⟩:=yM h1
  have hs:=zUx us p.2.1.toNat
  refine ⟨by rw [List.sum_cons,List.length_cons];omega,by rw [List.length_cons,List.length_cons,List.length_drop];omega,fun t ht=>?_⟩
  rcases List.mem_cons.1 ht with rfl | ht
  ·omega
  ·exact g3 t (List.mem_of_mem_drop ht)
theorem zRk {p:Prt} {r:List Prt} {q:List Nat} (h:zG (p::r)=some q):∃ ts,zG r=some ts:=by
 obtain ⟨ts,h1,_⟩:=jW h;exact ⟨ts,h1⟩
theorem fF:∀ {l:List Prt} {ts:List Nat},zG l=some ts→∀ i,∃ us,zG (l.drop i)=some us
 | [],ts,h,i=>⟨[],by rw [List.drop_nil];rfl⟩
 | p::r,ts,h,0=>⟨ts,h⟩
 | p::r,ts,h,i+1=>by
  obtain ⟨us,h1⟩:=zRk h
  rw [List.drop_succ_cons];exact fF h1 i
theorem fG:∀ {l:List Prt} {ts:List Nat} (k:Nat),zG l=some ts→k≤ts.length→zG (l.drop (ts.take k).sum)=some (ts.drop k)
 | [],ts,k,h,hk=>by
  rw [jC] at h;cases h
  simp at hk;subst hk;rfl
 | p::r,ts,0,h,hk=>by simpa using h
 | p::r,ts,k+1,h,hk=>by
  obtain ⟨us,h1,h2,h3,rfl⟩:=jW h
  rw [List.length_cons,List.length_drop] at hk
  rw [List.take_succ_cons,List.sum_cons,List.drop_succ_cons,List.drop_drop]
  have h4:=fG (p.2.1.toNat+k) h1 (by omega)
  rw [kQ] at h4
  rw [show 1+(us.take p.2.1.toNat).sum+((us.drop p.2.1.toNat).take k).sum=((us.take p.2.1.toNat).sum+((us.drop p.2.1.toNat).take k).sum)+1 by omega,List.drop_succ_cons]
  exact h4
def headSize (l:List Prt):Nat:=match zG l with
 | some (t::_)=>t
 | _=>0
theorem vN {l:List Prt} {t:Nat} {ts:List Nat} (h:zG l=some (t::ts)):headSize l=t:=by unfold headSize;rw [h]
def zC (l:List Prt) (i:Nat):Nat:=i+headSize (l.drop i)
def zZ (l:List Prt):Bool:=match zG l with
 | some [_]=>true
 | _=>false
theorem jX {l:List Prt}:zZ l=true↔zG l=some [l.length]:=by
 unfold zZ
 constructor
 ·intro h
  split at h
  ·rename_i x hx
   have:=(yM hx).1
   simp at this
   rw [hx,this]
  ·cases h
 ·intro h;rw [h]
def endR (len:Nat):List Prt→Nat→Nat→Option Nat
 | _,0,i=>some i
 | [],_+1,_=>none
 | p::r,n+1,i=>if 0≤p.2.1∧p.2.1≤(len:Int) then endR len r (n+p.2.1.toNat) (i+1) else none
theorem zAg (len:Nat) (l:List Prt) (i:Nat):endR len l 0 i=some i:=by cases l <;> rfl
theorem zCk (len:Nat):∀ {l:List Prt} {ts:List Nat},zG l=some ts→l.length≤len→∀ n i,endR len l n i=if n≤ts.length then some (i+(ts.take n).sum) else none
 | [],ts,h,_,n,i=>by
  rw [jC] at h;cases h
  cases n with
  | zero=>rw [zAg];simp
  | succ n=>rw [endR,if_neg (by simp)]
 | p::r,ts,h,hl,0,i=>by rw [zAg];simp
 | p::r,ts,h,hl,n+1,i=>by
  obtain ⟨us,h1,h2,h3,rfl⟩:=jW h
  rw [List.length_cons] at hl
  have hus:=(yM h1).2.1
  rw [endR,if_pos ⟨h2,by omega⟩,zCk len h1 (by omega)]
  rw [List.length_cons,List.length_drop]
  by_cases hc:n+p.2.1.toNat≤us.length
  ·rw [if_pos hc,if_pos (by omega),List.take_succ_cons,List.sum_cons,Nat.add_comm n,kQ]
   congr 1;omega
  ·rw [if_neg hc,if_neg (by omega)]
theorem zMk (len:Nat):∀ (l:List Prt) (n i e:Nat),endR len l n i=some e→i≤e∧e≤i+l.length
 | l,0,i,e,h=>by rw [zAg] at h;cases h;omega
 | [],n+1,i,e,h=>by rw [endR] at h;cases h
 | p::r,n+1,i,e,h=>by
  rw [endR] at h
  split at h
  ·have:=zMk len r _ _ _ h;rw [List.length_cons];omega
  ·cases h
theorem gP (len:Nat):∀ (l:List Prt) (n i e:Nat),endR len l n i=some e→∃ ts,zG (l.take (e-i))=some ts∧ts.length=n
 | l,0,i,e,h=>by rw [zAg] at h;cases h;rw [Nat.sub_self,List.take_zero];exact ⟨[],rfl,rfl⟩
 | [],n+1,i,e,h=>by rw [endR] at h;cases h
 | p::r,n+1,i,e,h=>by
  rw [endR] at h
  split at h
  ·rename_i hc
   obtain ⟨us,h1,h2⟩:=gP len r _ _ _ h
   have hle:=zMk len r _ _ _ h
   rw [show e-i=(e-(i+1))+1 by omega,List.take_succ_cons,fE h1 hc.1 (by omega)]
   exact ⟨_,rfl,by rw [List.length_cons,List.length_drop];omega⟩
  ·cases h
theorem zUy {l:List Prt}:(0<l.length∧endR l.length l 1 0=some l.length)↔zZ l=true:=by
 rw [jX]
 constructor
 ·rintro ⟨_,h⟩
  obtain ⟨ts,h1,h2⟩:=gP _ _ _ _ _ h
  rw [Nat.sub_zero,List.take_length] at h1
  have hs:=(yM h1).1
  match ts,h2 with
  | [t],_=>simp at hs;rw [h1,hs]
 ·intro h
  have hs:=(yM h).2.2 l.length (by simp)
  refine ⟨hs,?_⟩
  rw [zCk _ h (Nat.le_refl _),if_pos (by simp)]
  simp
theorem jY {a b:List Prt} {us ts:List Nat} (h:zG a=some us) (g:zG b=some ts):zG (a++b)=some (us++ts):=by
 induction a generalizing us with
 | nil=>rw [jC] at h;cases h;simpa using g
 | cons p r ih =>
  obtain ⟨vs,v1,v2,v3,rfl⟩:=jW h
  have:=ih v1
  rw [List.cons_append,fE this v2 (by rw [List.length_append];omega),List.take_append_of_le_length (by omega),List.drop_append_of_le_length (by omega)]
  rfl
def yT (l:List Prt):Int:=match zG l with
 | some ts=>(ts.length:Int)
 | none=>-1
def starts (i:Nat):List Nat→List Nat
 | []=>[]
 | t::ts=>i::starts (i+t) ts
theorem xN:∀ (ts:List Nat) (i:Nat),(starts i ts).length=ts.length
 | [],_=>rfl
 | t::ts,i=>by rw [starts,List.length_cons,List.length_cons,xN]
theorem zFp:∀ (ts:List Nat) (i k:Nat),k≤ts.length→(starts i ts).drop k=starts (i+(ts.take k).sum) (ts.drop k)
 | ts,i,0,_=>by simp
 | [],i,k+1,h=>by simp at h
 | t::ts,i,k+1,h=>by
  rw [starts,List.drop_succ_cons,zFp ts (i+t) k (by simpa using h),List.take_succ_cons,List.sum_cons,List.drop_succ_cons,Nat.add_assoc]
theorem zBa:∀ (ts:List Nat) (i k:Nat),k<ts.length→(starts i ts).getD k 0=i+(ts.take k).sum
 | t::ts,i,0,_=>by simp [starts]
 | t::ts,i,k+1,h=>by
  rw [starts,List.getD_cons_succ,zBa ts (i+t) k (by simpa using h),List.take_succ_cons,List.sum_cons,Nat.add_assoc]
theorem zPk {p:Prt} {ts:List Nat} (i:Nat) (h1:p.2.1≤(ts.length:Int)):i::(starts (i+1) ts).drop p.2.1.toNat=starts i ((1+(ts.take p.2.1.toNat).sum)::ts.drop p.2.1.toNat):=by
 rw [starts,zFp _ _ _ (by omega)]
 congr 1
 congr 1
 omega
end Go.Proofs.YtfalelkfhandfaaGreatDoor
namespace Go.Proofs.YtfalelkfhandfaaGreatDoor
set_option linter.all false

theorem zMl {l:List Prt} {us:List Nat} (h:zG l=some us) {i:Nat} (hi:i<l.length):∃ t ts,zG (l.drop i)=some (t::ts)∧0<t∧zC l i=i+t∧i+t≤l.length:=by
 obtain ⟨vs,hv⟩:=fF h i
 have hs:=yM hv
 rw [List.length_drop] at hs
 match vs with
 | []=>simp at hs;omega
 | t::ts =>
  have hp:=hs.2.2 t (by simp)
  have h1:=hs.1
  rw [List.sum_cons] at h1
  exact ⟨t,ts,hv,hp,by unfold zC;rw [vN hv],by omega⟩
theorem zBr {l:List Prt} {us:List Nat} (h:zG l=some us) {i:Nat} (hi:i<l.length):endR l.length (l.drop i) 1 i=some (zC l i):=by
 obtain ⟨t,ts,h1,h2,h3,h4⟩:=zMl h hi
 rw [zCk l.length h1 (by rw [List.length_drop];omega),if_pos (by simp),h3]
 simp
theorem zN {l:List Prt} {us:List Nat} (h:zG l=some us) {i:Nat} (hi:i<l.length):i<zC l i∧zC l i≤l.length:=by
 obtain ⟨t,ts,h1,h2,h3,h4⟩:=zMl h hi
 omega
theorem zK {l:List Prt} (h:zZ l=true):zG l=some [l.length]:=jX.1 h
theorem xA {l:List Prt} (h:zZ l=true):0<l.length∧zC l 0=l.length:=by
 have h1:=zK h
 have:=(yM h1).2.2 l.length (by simp)
 refine ⟨this,?_⟩
 unfold zC
 rw [List.drop_zero,vN h1];omega
def upI (l:List Prt) (i:Nat):Nat→Int
 | 0=>-1
 | k+1=>if i<zC l k then (k:Int) else upI l i k
theorem zCu {l:List Prt} (hw:zZ l=true) {i:Nat} (hi:i<l.length):∀ k,0<k→0≤upI l i k
 | 1,_=>by
  rw [upI,if_pos (by rw [(xA hw).2];exact hi)];omega
 | k+2,_=>by
  rw [upI]
  split
  ·omega
  ·exact zCu hw hi (k+1) (by omega)

def kidsB (l:List Prt) (i:Nat):List Nat:=match zG (l.drop (i+1)),l[i]? with
 | some ts,some p=>(starts (i+1) ts).take p.2.1.toNat
 | _,_=>[]
theorem fH {l:List Prt} {us:List Nat} (h:zG l=some us) {i:Nat} (hi:i<l.length) :
  ∃ ts q,zG (l.drop (i+1))=some ts∧(l[i]).2.1=((q:Nat):Int)∧q≤ts.length∧zC l i=i+1+(ts.take q).sum∧kidsB l i=(starts (i+1) ts).take q:=by
 obtain ⟨vs,hv⟩:=fF h i
 rw [List.drop_eq_getElem_cons hi] at hv
 obtain ⟨ts,h1,h2,h3,h4⟩:=jW hv
 refine ⟨ts,(l[i]).2.1.toNat,h1,by omega,by omega,?_,?_⟩
 ·unfold zC
  rw [List.drop_eq_getElem_cons hi]
  subst h4
  rw [vN hv];omega
 ·unfold kidsB
  rw [h1,List.getElem?_eq_getElem hi]
theorem fI {l:List Prt} {us:List Nat} (h:zG l=some us) {i:Nat} {ts:List Nat} {q n:Nat} (hts:zG (l.drop (i+1))=some ts) (hq:q≤ts.length) (hn:n<q) :
  i+1+(ts.take n).sum<l.length∧zC l (i+1+(ts.take n).sum)=i+1+(ts.take (n+1)).sum∧(starts (i+1) ts).take (n+1)=(starts (i+1) ts).take n++[i+1+(ts.take n).sum]∧(ts.take n).sum<(ts.take q).sum∧(ts.take n).sum<(ts.take (n+1)).sum∧(ts.take (n+1)).sum≤(ts.take q).sum:=by
 have hk:=fG n hts (by omega)
 rw [List.drop_drop] at hk
 have hd:ts.drop n=ts[n]::ts.drop (n+1):=List.drop_eq_getElem_cons (by omega)
 have hsum:(ts.take (n+1)).sum=(ts.take n).sum+ts[n]:=by rw [List.take_succ_eq_append_getElem (by omega),List.sum_append];simp
 have hpos:=(yM hts).2.2 ts[n] (List.getElem_mem (by omega))
 have hh:=vN (hk.trans (congrArg some hd))
 have h1:=(yM hk).1
 rw [hd,List.sum_cons,List.length_drop] at h1
 refine ⟨by omega,by unfold zC;rw [hh,hsum];omega,?_,?_⟩
 ·have hz:=xN ts (i+1)
  rw [List.take_succ_eq_append_getElem (by omega)]
  have:=zBa ts (i+1) n (by omega)
  rw [List.getD_eq_getElem?_getD,List.getElem?_eq_getElem (by omega)] at this
  simp only [Option.getD_some] at this
  rw [this]
 refine ⟨?_,by omega,?_⟩
 ·have:=kQ ts (n+1) (q-(n+1))
  rw [show n+1+(q-(n+1))=q by omega] at this
  omega
 ·have:=kQ ts (n+1) (q-(n+1))
  rw [show n+1+(q-(n+1))=q by omega] at this
  omega
end Go.Proofs.YtfalelkfhandfaaGreatDoor
namespace Go.Proofs.YtfalelkfhandfaaGreatDoor
set_option linter.all false

abbrev Hl:=ByteArray×Nat
def vE (k:Nat):Bool:=k == 5 || k == 7
def isSev (k:Nat):Bool:=k == 6 || k == 7
def yD (f:List Prt) (p:Nat) (h:Hl):Bool :=
 if vE h.2 then (match f[p]?,f[p+1]? with
  | some a,some b=>a.1 == 50&&(b.1 == 26&&decide (b.2.2=h.1))
  | _,_=>false)
 else (match f[p]? with
  | some a=>a.1 == 26&&decide (a.2.2=h.1)
  | none=>false)
def zW (f:List Prt) (hs:List Hl) (p:Nat):Option Nat:=hs.findIdx? (yD f p)
def hkind (hs:List Hl) (h:Nat):Nat:=match hs[h]? with
 | some x=>x.2
 | none=>0
def sevOf (f:List Prt) (hs:List Hl) (p:Nat):Option Nat:=match zW f hs p with
 | some h=>if isSev (hkind hs h) then some h else none
 | none=>none
def oneOf (f:List Prt) (hs:List Hl) (p:Nat):Option Nat:=match zW f hs p with
 | some h=>if isSev (hkind hs h) then none else some h
 | none=>none
def mayB (hole k:Nat):Bool :=
 if hole=1 then decide (26≤k)&&(decide (k≤48)&&k != 38)
 else if hole=2 then k == 26
 else if hole=3 then k == 27
 else if hole=4 then k == 26 || ((decide (28≤k)&&decide (k≤30)) || (k == 35 || (decide (41≤k)&&decide (k≤48))))
 else if hole=5 then decide (49≤k)&&(decide (k≤68)&&(k != 62&&k != 64))
 else true
abbrev MSt:=List (Option (Nat×Nat))
def piece (l:List Prt) (a b:Nat):List Prt:=(l.drop a).take (b-a)
def bindS (l:List Prt) (σ:MSt) (h a b:Nat):Option MSt:=match σ[h]? with
 | some (some q)=>if piece l q.1 q.2=piece l a b then some σ else none
 | some none=>some (σ.set h (some (a,b)))
 | none=>none
def advT (l:List Prt):Nat→Nat→Nat→Option Nat
 | 0,a,_=>some a
 | m+1,a,stop=>if a<stop then advT l m (zC l a) stop else none
def alikeP (f l:List Prt) (p i:Nat):Bool:=match f[p]?,l[i]? with
 | some a,some b=>a.1 == b.1&&decide (a.2.2=b.2.2)
 | _,_=>false
def yJ (l:List Prt) (i:Nat):Nat:=match l[i]? with
 | some b=>b.1
 | none=>0
def tosL (l:List Prt):Nat→Nat→Nat→List Nat
 | 0,_,_=>[]
 | m+1,tx,iend=>tx::(if tx=iend then [] else tosL l m (zC l tx) iend)

section
variable (f l:List Prt) (hs:List Hl)
mutual
def fPart (L:Nat→Nat):Nat→Nat→Nat→MSt→Option MSt
 | 0,_,_,_=>none
 | n+1,p,i,σ=>match oneOf f hs p with
  | some h=>if mayB (hkind hs h) (yJ l i) then bindS l σ h i (zC l i) else none
  | none=>if alikeP f l p i then fKids L n (p+1) (zC f p) (i+1) (zC l i) σ else none
def fKids (L:Nat→Nat):Nat→Nat→Nat→Nat→Nat→MSt→Option MSt
 | 0,_,_,_,_,_=>none
 | n+1,p,pend,i,stop,σ=>if p=pend then (if i=stop then some σ else none) else
   match sevOf f hs p with
   | some h=>(advT l (L h) i stop).bind fun tx=>(bindS l σ h i tx).bind fun σ'=>fKids L n (zC f p) pend tx stop σ'
   | none=>if i<stop then (fPart L n p i σ).bind fun σ'=>fKids L n (zC f p) pend (zC l i) stop σ' else none
end
def sLoop (l:List Prt) (g:Nat→Option MSt):Nat→Nat→Nat→Option MSt
 | 0,_,_=>none
 | m+1,tx,iend=>match g tx with
  | some r=>some r
  | none=>if tx=iend then none else sLoop l g m (zC l tx) iend
mutual
def sPart:Nat→Nat→Nat→(MSt→Option MSt)→MSt→Option MSt
 | 0,_,_,_,_=>none
 | n+1,p,i,K,σ=>match oneOf f hs p with
  | some h=>if mayB (hkind hs h) (yJ l i) then (bindS l σ h i (zC l i)).bind K else none
  | none=>if alikeP f l p i then sKids n (p+1) (zC f p) (i+1) (zC l i) K σ else none
def sKids:Nat→Nat→Nat→Nat→Nat→(MSt→Option MSt)→MSt→Option MSt
 | 0,_,_,_,_,_,_=>none
 | n+1,p,pend,i,stop,K,σ=>if p=pend then (if i=stop then K σ else none) else
   match sevOf f hs p with
   | some h=>sLoop l (fun tx=>(bindS l σ h i tx).bind (sKids n (zC f p) pend tx stop K)) (l.length+1) i stop
   | none=>if i<stop then sPart n p i (sKids n (zC f p) pend (zC l i) stop K) σ else none
end
mutual
def aPart:Nat→Nat→Nat→MSt→List MSt
 | 0,_,_,_=>[]
 | n+1,p,i,σ=>match oneOf f hs p with
  | some h=>if mayB (hkind hs h) (yJ l i) then (bindS l σ h i (zC l i)).toList else []
  | none=>if alikeP f l p i then aKids n (p+1) (zC f p) (i+1) (zC l i) σ else []
def aKids:Nat→Nat→Nat→Nat→Nat→MSt→List MSt
 | 0,_,_,_,_,_=>[]
 | n+1,p,pend,i,stop,σ=>if p=pend then (if i=stop then [σ] else []) else
   match sevOf f hs p with
   | some h=>(tosL l (l.length+1) i stop).flatMap fun tx=>(bindS l σ h i tx).toList.flatMap (aKids n (zC f p) pend tx stop)
   | none=>if i<stop then (aPart n p i σ).flatMap (aKids n (zC f p) pend (zC l i) stop) else []
end
def MExt (σ τ:MSt):Prop:=σ.length=τ.length∧∀ (h:Nat) (q:Nat×Nat),σ[h]?=some (some q)→τ[h]?=some (some q)
theorem MExt.refl (σ:MSt):MExt σ σ:=⟨rfl,fun _ _ h=>h⟩
theorem MExt.trans {σ τ υ:MSt} (h:MExt σ τ) (g:MExt τ υ):MExt σ υ:=⟨h.1.trans g.1,fun k q e=>g.2 k q (h.2 k q e)⟩
theorem jR {σ τ:MSt} {h a b:Nat} (e:bindS l σ h a b=some τ):MExt σ τ∧∃ q,τ[h]?=some (some q)∧piece l q.1 q.2=piece l a b∧(σ[h]?=some (some q)∨(σ[h]?=some none∧q=(a,b)∧τ=σ.set h (some (a,b)))):=by
 unfold bindS at e
 cases hq:σ[h]? with
 | none=>rw [hq] at e;cases e
 | some o =>
  cases o with
  | some q =>
   rw [hq] at e
   simp only [] at e
   split at e
   ·rename_i hp
    cases e
    exact ⟨MExt.refl _,q,hq,hp,Or.inl rfl⟩
   ·cases e
  | none =>
   rw [hq] at e
   simp only [Option.some.injEq] at e
   subst e
   have hl:h<σ.length:=by
    by_cases c:h<σ.length
    ·exact c
    ·rw [List.getElem?_eq_none (by omega)] at hq;cases hq
   refine ⟨⟨by simp,fun k q hk=>?_⟩,(a,b),by rw [List.getElem?_set_self hl],rfl,Or.inr ⟨rfl,rfl,rfl⟩⟩
   by_cases c:h=k
   ·subst c;rw [hq] at hk;cases hk
   ·rw [List.getElem?_set_ne c];exact hk
theorem zEc {σ τ:MSt} {h a b:Nat} (e:bindS l σ h a b=some τ) {k:Nat} (hk:k≠h):τ[k]?=σ[k]?:=by
 obtain ⟨_,q,_,_,h2 | ⟨_,_,rfl⟩⟩:=jR l e
 ·unfold bindS at e
  rw [h2] at e
  simp only [] at e
  split at e <;> (cases e;try rfl)
 ·rw [List.getElem?_set_ne (fun c=>hk c.symm)]
theorem zNk:∀ n,(∀ p i σ τ,τ∈aPart f l hs n p i σ→MExt σ τ)∧(∀ p pend i stop σ τ,τ∈aKids f l hs n p pend i stop σ→MExt σ τ)
 | 0=>⟨(fun _ _ _ _ h=>by rw [aPart] at h;cases h),(fun _ _ _ _ _ _ h=>by rw [aKids] at h;cases h)⟩
 | n+1=>by
  obtain ⟨h1,h2⟩:=zNk n
  constructor
  ·intro p i σ τ h
   rw [aPart] at h
   cases ho:oneOf f hs p with
   | some k =>
    rw [ho] at h
    simp only [] at h
    split at h
    ·rw [Option.mem_toList] at h;exact (jR l h).1
    ·cases h
   | none =>
    rw [ho] at h
    simp only [] at h
    split at h
    ·exact h2 _ _ _ _ _ _ h
    ·cases h
  ·intro p pend i stop σ τ h
   rw [aKids] at h
   split at h
   ·split at h
    ·simp at h;subst h;exact MExt.refl _
    ·cases h
   ·cases ho:sevOf f hs p with
    | some k =>
     rw [ho] at h
     simp only [List.mem_flatMap,Option.mem_toList] at h
     obtain ⟨tx,_,υ,g1,g2⟩:=h
     exact (jR l g1).1.trans (h2 _ _ _ _ _ _ g2)
    | none =>
     rw [ho] at h
     simp only [] at h
     split at h
     ·simp only [List.mem_flatMap] at h
      obtain ⟨υ,g1,g2⟩:=h
      exact (h1 _ _ _ _ g1).trans (h2 _ _ _ _ _ _ g2)
     ·cases h
end
def cntP (q:List Prt):Nat:=match zG q with
 | some ts=>ts.length
 | none=>0
def lensS (l:List Prt) (σ:MSt) (h:Nat):Nat:=match σ[h]? with
 | some (some q)=>cntP (piece l q.1 q.2)
 | _=>0
theorem jF {l:List Prt} {us:List Nat} (hl:zG l=some us):∀ (k a stop b:Nat),stop≤l.length→advT l k a stop=some b→a+k≤b
 | 0,a,stop,b,_,h=>by rw [advT] at h;cases h;omega
 | k+1,a,stop,b,hs,h=>by
  rw [advT] at h
  split at h
  ·rename_i hc
   have:=jF hl k _ _ _ hs h
   have:=(zN hl (show a<l.length by omega)).1
   omega
  ·cases h
theorem jG (l:List Prt):∀ (k j a stop:Nat),advT l (k+j) a stop=(advT l k a stop).bind fun b=>advT l j b stop
 | 0,j,a,stop=>by rw [Nat.zero_add,advT];rfl
 | k+1,j,a,stop=>by
  rw [show k+1+j=(k+j)+1 by omega,advT,advT]
  split
  ·exact jG l k j _ _
  ·rfl
theorem zNl {l:List Prt} {us:List Nat} (hl:zG l=some us):∀ (k a stop b:Nat),stop≤l.length→advT l k a stop=some b→b≤stop→advT l k a b=some b
 | 0,a,stop,b,_,h,_=>by rw [advT] at h ⊢;cases h;rfl
 | k+1,a,stop,b,hs,h,hb=>by
  rw [advT] at h ⊢
  split at h
  ·rename_i hc
   have h1:=jF hl k _ _ _ hs h
   have:=(zN hl (show a<l.length by omega)).1
   rw [if_pos (by omega)]
   exact zNl hl k _ _ _ hs h hb
  ·cases h
theorem zSz (l:List Prt) {a b c:Nat} (h1:a≤b) (h2:b≤c):piece l a c=piece l a b++piece l b c:=by
 unfold piece
 rw [show c-a=(b-a)+(c-b) by omega,List.take_add,List.drop_drop,show a+(b-a)=b by omega]
theorem zJp {l:List Prt} {us:List Nat} (hl:zG l=some us) {a:Nat} (ha:a<l.length):∃ t,zG (piece l a (zC l a))=some [t]:=by
 obtain ⟨ts,h1,h2⟩:=gP _ _ _ _ _ (zBr hl ha)
 match ts,h2 with
 | [t],_=>exact ⟨t,h1⟩
theorem zGx {l:List Prt} {us:List Nat} (hl:zG l=some us):∀ (k a b:Nat),b≤l.length→advT l k a b=some b→∃ ts,zG (piece l a b)=some ts∧ts.length=k
 | 0,a,b,hb,h=>by
  rw [advT] at h;cases h
  unfold piece;rw [Nat.sub_self,List.take_zero];exact ⟨[],rfl,rfl⟩
 | k+1,a,b,hb,h=>by
  rw [advT] at h
  split at h
  ·rename_i hc
   obtain ⟨ts,h1,h2⟩:=zGx hl k _ _ hb h
   have hle:=jF hl k _ _ _ hb h
   have hg:=(zN hl (show a<l.length by omega)).1
   obtain ⟨t,ht⟩:=zJp hl (show a<l.length by omega)
   rw [zSz l (by omega) (show zC l a≤b by omega)]
   exact ⟨_,jY ht h1,by simp [h2]⟩
  ·cases h
theorem zRr {l:List Prt} {us:List Nat} (hl:zG l=some us) {k a b stop:Nat} (hs:stop≤l.length) (h:advT l k a stop=some b) (hb:b≤stop):cntP (piece l a b)=k:=by
 obtain ⟨ts,h1,h2⟩:=zGx hl k a b (by omega) (zNl hl k a stop b hs h hb)
 unfold cntP;rw [h1];exact h2
theorem zBh {l:List Prt} {us:List Nat} (hl:zG l=some us) {K k a stop b:Nat} (hs:stop≤l.length) (hK:advT l K a stop=some stop) (hk:advT l k a stop=some b):k≤K∧b≤stop∧advT l (K-k) b stop=some stop:=by
 have hle:k≤K:=by
  rcases Nat.lt_or_ge K k with h | h
  ·exfalso
   rw [show k=K+((k-K-1)+1) by omega,jG,hK] at hk
   simp only [Option.bind_some] at hk
   rw [advT,if_neg (by omega)] at hk
   cases hk
  ·exact h
 have h2:=hK
 rw [show K=k+(K-k) by omega,jG,hk] at h2
 simp only [Option.bind_some] at h2
 have:=jF hl _ _ _ _ hs h2
 exact ⟨hle,by omega,h2⟩
theorem jH {l:List Prt} {K a stop:Nat} (hK:advT l K a stop=some stop) (ha:a≠stop):a<stop∧∃ J,K=J+1∧advT l J (zC l a) stop=some stop:=by
 cases K with
 | zero=>rw [advT] at hK;cases hK;exact absurd rfl ha
 | succ J =>
  rw [advT] at hK
  split at hK
  ·exact ⟨by assumption,J,rfl,hK⟩
  ·cases hK
theorem kF {l:List Prt} {us:List Nat} (hl:zG l=some us) {i:Nat} (hi:i<l.length):∃ q,(l[i]).2.1=((q:Nat):Int)∧advT l q (i+1) (zC l i)=some (zC l i):=by
 obtain ⟨ts,q,h1,h2,h3,h4,_⟩:=fH hl hi
 refine ⟨q,h2,?_⟩
 have key:∀ m n,n+m=q→advT l m (i+1+(ts.take n).sum) (zC l i)=some (zC l i):=by
  intro m
  induction m with
  | zero=>intro n e;rw [advT,h4,show n=q by omega]
  | succ m ih =>
   intro n e
   obtain ⟨g1,g2,_,g4,_⟩:=fI hl h1 h3 (show n<q by omega)
   rw [advT,if_pos (by omega),g2]
   exact ih (n+1) (by omega)
 have:=key q 0 (by omega)
 simpa using this
theorem zFw {l:List Prt} {us:List Nat} (hl:zG l=some us) {stop:Nat} (hs:stop≤l.length):∀ (m a K tx:Nat),advT l K a stop=some stop→stop-a<m→(tx∈tosL l m a stop↔∃ k,advT l k a stop=some tx)
 | 0,a,K,tx,_,h=>by omega
 | m+1,a,K,tx,hK,hm=>by
  rw [tosL,List.mem_cons]
  constructor
  ·rintro (rfl | h)
   ·exact ⟨0,rfl⟩
   ·split at h
    ·cases h
    ·rename_i hne
     obtain ⟨hlt,J,rfl,hJ⟩:=jH hK hne
     have:=(zN hl (show a<l.length by omega)).1
     obtain ⟨k,hk⟩:=(zFw hl hs m (zC l a) J tx hJ (by omega)).1 h
     exact ⟨k+1,by rw [advT,if_pos hlt];exact hk⟩
  ·rintro ⟨k,hk⟩
   cases k with
   | zero=>rw [advT] at hk;cases hk;exact Or.inl rfl
   | succ k =>
    rw [advT] at hk
    split at hk
    ·rename_i hlt
     obtain ⟨_,J,rfl,hJ⟩:=jH hK (show a≠stop by omega)
     have:=(zN hl (show a<l.length by omega)).1
     right
     rw [if_neg (by omega)]
     exact (zFw hl hs m (zC l a) J tx hJ (by omega)).2 ⟨k,hk⟩
    ·cases hk
section
variable (f l:List Prt) (hs:List Hl)
def MAgree (L:Nat→Nat) (υ:MSt):Prop:=∀ h q,isSev (hkind hs h)=true→υ[h]?=some (some q)→L h=cntP (piece l q.1 q.2)
theorem gQ {p h:Nat} (e:sevOf f hs p=some h):isSev (hkind hs h)=true∧zW f hs p=some h:=by
 unfold sevOf at e
 cases ho:zW f hs p with
 | none=>rw [ho] at e;cases e
 | some k =>
  rw [ho] at e
  simp only [] at e
  split at e
  ·cases e;exact ⟨by assumption,rfl⟩
  ·cases e
theorem zJq {p h:Nat} (e:oneOf f hs p=some h):isSev (hkind hs h)=false∧zW f hs p=some h∧sevOf f hs p=none:=by
 unfold oneOf at e
 unfold sevOf
 cases ho:zW f hs p with
 | none=>rw [ho] at e;cases e
 | some k =>
  rw [ho] at e
  simp only [] at e ⊢
  split at e
  ·cases e
  ·cases e
   rename_i hx
   rw [if_neg hx]
   exact ⟨by simpa using hx,rfl,rfl⟩
theorem zRs {us:List Nat} (hl:zG l=some us):∀ n,(∀ p i σ τ,i<l.length→τ∈aPart f l hs n p i σ→∀ υ L,MExt τ υ→MAgree l hs L υ→fPart f l hs L n p i σ=some τ) ∧
  (∀ p pend i stop σ τ K,stop≤l.length→advT l K i stop=some stop→τ∈aKids f l hs n p pend i stop σ→∀ υ L,MExt τ υ→MAgree l hs L υ→fKids f l hs L n p pend i stop σ=some τ)
 | 0=>⟨(fun _ _ _ _ _ h=>by rw [aPart] at h;cases h),(fun _ _ _ _ _ _ _ _ _ h=>by rw [aKids] at h;cases h)⟩
 | n+1=>by
  obtain ⟨h1,h2⟩:=zRs hl n
  constructor
  ·intro p i σ τ hi h υ L he ha
   rw [aPart] at h
   rw [fPart]
   cases ho:oneOf f hs p with
   | some k =>
    rw [ho] at h
    simp only [] at h ⊢
    split at h
    ·rename_i hm
     rw [if_pos hm]
     rw [Option.mem_toList] at h;exact h
    ·cases h
   | none =>
    rw [ho] at h
    simp only [] at h ⊢
    split at h
    ·rename_i hm
     rw [if_pos hm]
     obtain ⟨q,_,hq⟩:=kF hl hi
     exact h2 _ _ _ _ _ _ q (zN hl hi).2 hq h υ L he ha
    ·cases h
  ·intro p pend i stop σ τ K hst hK h υ L he ha
   rw [aKids] at h
   rw [fKids]
   split at h
   ·rename_i hp
    rw [if_pos hp]
    split at h
    ·rename_i hi
     rw [if_pos hi]
     simp at h;rw [h]
    ·cases h
   ·rename_i hp
    rw [if_neg hp]
    cases ho:sevOf f hs p with
    | some k =>
     rw [ho] at h
     simp only [List.mem_flatMap,Option.mem_toList] at h ⊢
     obtain ⟨tx,hto,υ',g1,g2⟩:=h
     obtain ⟨m,hm⟩:=(zFw hl hst _ _ K tx hK (by omega)).1 hto
     obtain ⟨r1,r2,r3⟩:=zBh hl hst hK hm
     have hext:=(zNk f l hs n).2 _ _ _ _ _ _ g2
     obtain ⟨_,q,q1,q2,_⟩:=jR l g1
     have hL:=ha k q (gQ f hs ho).1 (he.2 _ _ (hext.2 _ _ q1))
     rw [q2,zRr hl hst hm r2] at hL
     rw [hL,hm,Option.bind_some,g1,Option.bind_some]
     exact h2 _ _ _ _ _ _ _ hst r3 g2 υ L he ha
    | none =>
     rw [ho] at h
     simp only [] at h ⊢
     split at h
     ·rename_i hi
      rw [if_pos hi]
      simp only [List.mem_flatMap] at h
      obtain ⟨υ',g1,g2⟩:=h
      have hext:=(zNk f l hs n).2 _ _ _ _ _ _ g2
      obtain ⟨_,J,_,hJ⟩:=jH hK (show i≠stop by omega)
      rw [h1 _ _ _ _ (by omega) g1 υ L (hext.trans he) ha,Option.bind_some]
      exact h2 _ _ _ _ _ _ J hst hJ g2 υ L he ha
     ·cases h
def occL (p pend:Nat):List Nat:=(List.range' p (pend-p)).filterMap (sevOf f hs)
theorem zFx {p m pend:Nat} (h1:p≤m) (h2:m≤pend):occL f hs p pend=occL f hs p m++occL f hs m pend:=by
 unfold occL
 rw [← List.filterMap_append,show pend-p=(m-p)+(pend-m) by omega]
 congr 1
 have:=List.range'_append (s:=p) (m:=m-p) (n:=pend-m) (step:=1)
 rw [Nat.one_mul,show p+(m-p)=m by omega] at this
 exact this.symm
theorem zZp (p:Nat):occL f hs p p=[]:=by unfold occL;rw [Nat.sub_self];rfl
theorem zRt {p:Nat}:occL f hs p (p+1)=(sevOf f hs p).toList:=by
 unfold occL
 rw [show p+1-p=1 by omega]
 simp [List.range'_succ,List.filterMap_cons]
 cases sevOf f hs p <;> rfl
theorem zWc {p m:Nat} (h:∀ q,p≤q→q<m→sevOf f hs q=none):occL f hs p m=[]:=by
 unfold occL
 rw [List.filterMap_eq_nil_iff]
 intro a ha
 rw [List.mem_range'_1] at ha
 exact h a ha.1 (by omega)
def MBare:Prop:=∀ p h,p<f.length→zW f hs p=some h→∀ q,p<q→q<zC f p→sevOf f hs q=none
end
def MBnd (τ:MSt) (h:Nat):Prop:=∃ q,τ[h]?=some (some q)
theorem MBnd.ext {σ τ:MSt} {h:Nat} (hb:MBnd σ h) (he:MExt σ τ):MBnd τ h:=by obtain ⟨q,hq⟩:=hb;exact ⟨q,he.2 _ _ hq⟩
section
variable (f l:List Prt) (hs:List Hl)
theorem zLl {uf:List Nat} (hf:zG f=some uf) (hB:MBare f hs) {p:Nat} (hp:p<f.length) {h:Nat} (ho:zW f hs p=some h):occL f hs p (zC f p)=(sevOf f hs p).toList:=by
 have hg:=(zN hf hp).1
 rw [zFx f hs (show p≤p+1 by omega) (show p+1≤zC f p by omega),zRt,zWc f hs (p:=p+1) (m:=zC f p) (fun q h1 h2=>hB p h hp ho q (by omega) h2),List.append_nil]
theorem zWd {uf:List Nat} (hf:zG f=some uf) {p:Nat} (hp:p<f.length) (ho:sevOf f hs p=none):occL f hs p (zC f p)=occL f hs (p+1) (zC f p):=by
 have hg:=(zN hf hp).1
 rw [zFx f hs (show p≤p+1 by omega) (show p+1≤zC f p by omega),zRt,ho]
 rfl
theorem zRu {uf:List Nat} (hf:zG f=some uf) (hB:MBare f hs):∀ n,(∀ p i σ τ,p<f.length→sevOf f hs p=none→τ∈aPart f l hs n p i σ→∀ h∈occL f hs p (zC f p),MBnd τ h) ∧
  (∀ p pend i stop σ τ K,pend≤f.length→advT f K p pend=some pend→τ∈aKids f l hs n p pend i stop σ→∀ h∈occL f hs p pend,MBnd τ h)
 | 0=>⟨(fun _ _ _ _ _ _ h=>by rw [aPart] at h;cases h),(fun _ _ _ _ _ _ _ _ _ h=>by rw [aKids] at h;cases h)⟩
 | n+1=>by
  obtain ⟨h1,h2⟩:=zRu hf hB n
  constructor
  ·intro p i σ τ hp hsv h k hk
   rw [aPart] at h
   cases ho:oneOf f hs p with
   | some j =>
    have hj:=zJq f hs ho
    rw [zLl f hs hf hB hp hj.2.1,hsv] at hk
    cases hk
   | none =>
    rw [ho] at h
    simp only [] at h
    split at h
    ·rw [zWd f hs hf hp hsv] at hk
     obtain ⟨q,_,hq⟩:=kF hf hp
     exact h2 _ _ _ _ _ _ q (zN hf hp).2 hq h k hk
    ·cases h
  ·intro p pend i stop σ τ K hpe hK h k hk
   rw [aKids] at h
   split at h
   ·rename_i hp
    subst hp
    rw [zZp] at hk;cases hk
   ·rename_i hp
    obtain ⟨hlt,J,_,hJ⟩:=jH hK hp
    have hle:=jF hf _ _ _ _ hpe hJ
    have hg:=(zN hf (show p<f.length by omega)).1
    rw [zFx f hs (show p≤zC f p by omega) (show zC f p≤pend by omega),List.mem_append] at hk
    cases ho:sevOf f hs p with
    | some j =>
     rw [ho] at h
     simp only [List.mem_flatMap,Option.mem_toList] at h
     obtain ⟨tx,hto,υ,g1,g2⟩:=h
     rcases hk with hk | hk
     ·rw [zLl f hs hf hB (by omega) (gQ f hs ho).2,ho] at hk
      simp at hk
      subst hk
      obtain ⟨_,q,q1,_⟩:=jR l g1
      exact MBnd.ext ⟨q,q1⟩ ((zNk f l hs n).2 _ _ _ _ _ _ g2)
     ·exact h2 _ _ _ _ _ _ J hpe hJ g2 k hk
    | none =>
     rw [ho] at h
     simp only [] at h
     split at h
     ·simp only [List.mem_flatMap] at h
      obtain ⟨υ,g1,g2⟩:=h
      rcases hk with hk | hk
      ·exact (h1 _ _ _ _ (by omega) ho g1 k hk).ext ((zNk f l hs n).2 _ _ _ _ _ _ g2)
      ·exact h2 _ _ _ _ _ _ J hpe hJ g2 k hk
     ·cases h
theorem yAn {uf:List Nat} (hf:zG f=some uf) (hB:MBare f hs) {us:List Nat} (hl:zG l=some us) {most:Nat} (hm:∀ i (hi:i<l.length),(l[i]).2.1≤(most:Int)):∀ n,(∀ p i σ τ,p<f.length→i<l.length→sevOf f hs p=none→τ∈aPart f l hs n p i σ→∀ h q,isSev (hkind hs h)=true→τ[h]?=some (some q)→σ[h]?=some (some q)∨(h∈occL f hs p (zC f p)∧cntP (piece l q.1 q.2)≤most)) ∧
  (∀ p pend i stop σ τ K J,pend≤f.length→advT f K p pend=some pend→stop≤l.length→advT l J i stop=some stop→J≤most→τ∈aKids f l hs n p pend i stop σ→∀ h q,isSev (hkind hs h)=true→τ[h]?=some (some q)→σ[h]?=some (some q)∨(h∈occL f hs p pend∧cntP (piece l q.1 q.2)≤most))
 | 0=>⟨(fun _ _ _ _ _ _ _ h=>by rw [aPart] at h;cases h),(fun _ _ _ _ _ _ _ _ _ _ _ _ _ h=>by rw [aKids] at h;cases h)⟩
 | n+1=>by
  obtain ⟨h1,h2⟩:=yAn hf hB hl hm n
  constructor
  ·intro p i σ τ hp hi hsv h k q hk hq
   rw [aPart] at h
   cases ho:oneOf f hs p with
   | some j =>
    rw [ho] at h
    simp only [] at h
    split at h
    ·rw [Option.mem_toList] at h
     have hj:=zJq f hs ho
     have hne:k≠j:=fun e=>by subst e;rw [hj.1] at hk;cases hk
     rw [zEc l h hne] at hq
     exact Or.inl hq
    ·cases h
   | none =>
    rw [ho] at h
    simp only [] at h
    split at h
    ·rw [zWd f hs hf hp hsv]
     obtain ⟨a,_,ha⟩:=kF hf hp
     obtain ⟨b,hbk,hb⟩:=kF hl hi
     have:=hm i hi
     exact h2 _ _ _ _ _ _ a b (zN hf hp).2 ha (zN hl hi).2 hb (by omega) h k q hk hq
    ·cases h
  ·intro p pend i stop σ τ K M hpe hK hst hM hMm h k q hk hq
   rw [aKids] at h
   split at h
   ·split at h
    ·simp at h;subst h;exact Or.inl hq
    ·cases h
   ·rename_i hp
    obtain ⟨hlt,J,_,hJ⟩:=jH hK hp
    have hle:=jF hf _ _ _ _ hpe hJ
    have hg:=(zN hf (show p<f.length by omega)).1
    rw [zFx f hs (show p≤zC f p by omega) (show zC f p≤pend by omega),List.mem_append]
    cases ho:sevOf f hs p with
    | some j =>
     rw [ho] at h
     simp only [List.mem_flatMap,Option.mem_toList] at h
     obtain ⟨tx,hto,υ,g1,g2⟩:=h
     obtain ⟨m,hm2⟩:=(zFw hl hst _ _ M tx hM (by omega)).1 hto
     obtain ⟨r1,r2,r3⟩:=zBh hl hst hM hm2
     rcases h2 _ _ _ _ _ _ J (M-m) hpe hJ hst r3 (by omega) g2 k q hk hq with g3 | g3
     ·by_cases hne:k=j
      ·subst hne
       obtain ⟨_,q',q1,_,q3 | ⟨_,q3,_⟩⟩:=jR l g1
       ·rw [g3] at q1;cases q1;exact Or.inl q3
       ·rw [g3] at q1;cases q1
        right
        refine ⟨Or.inl ?_,?_⟩
        ·rw [zLl f hs hf hB (by omega) (gQ f hs ho).2,ho];simp
        ·subst q3;rw [zRr hl hst hm2 r2];omega
      ·rw [zEc l g1 hne] at g3;exact Or.inl g3
     ·exact Or.inr ⟨Or.inr g3.1,g3.2⟩
    | none =>
     rw [ho] at h
     simp only [] at h
     split at h
     ·rename_i hi
      simp only [List.mem_flatMap] at h
      obtain ⟨υ,g1,g2⟩:=h
      obtain ⟨_,M',e,hM'⟩:=jH hM (show i≠stop by omega)
      rcases h2 _ _ _ _ _ _ J M' hpe hJ hst hM' (by omega) g2 k q hk hq with g3 | g3
      ·rcases h1 _ _ _ _ (by omega) (by omega) ho g1 k q hk g3 with g4 | g4
       ·exact Or.inl g4
       ·exact Or.inr ⟨Or.inl g4.1,g4.2⟩
      ·exact Or.inr ⟨Or.inr g3.1,g3.2⟩
     ·cases h
end
def ddL:List Nat→List Nat→List Nat
 | acc,[]=>acc
 | acc,h::t=>if h∈acc then ddL acc t else ddL (acc++[h]) t
theorem zLm:∀ (o acc:List Nat) (h:Nat),h∈ddL acc o↔h∈acc∨h∈o
 | [],acc,h=>by simp [ddL]
 | k::t,acc,h=>by
  rw [ddL]
  split
  ·rename_i hc
   rw [zLm t acc h,List.mem_cons]
   constructor
   ·rintro (h1 | h1)
    ·exact Or.inl h1
    ·exact Or.inr (Or.inr h1)
   ·rintro (h1 | rfl | h1)
    ·exact Or.inl h1
    ·exact Or.inl hc
    ·exact Or.inr h1
  ·rw [zLm t _ h,List.mem_append,List.mem_singleton,List.mem_cons]
   constructor
   ·rintro ((h1 | h1) | h1)
    ·exact Or.inl h1
    ·exact Or.inr (Or.inl h1)
    ·exact Or.inr (Or.inr h1)
   ·rintro (h1 | h1 | h1)
    ·exact Or.inl (Or.inl h1)
    ·exact Or.inl (Or.inr h1)
    ·exact Or.inr h1
def valD (B:Nat):List Nat→Nat
 | []=>0
 | d::t=>d*B ^ t.length+valD B t
theorem zLn {B:Nat}:∀ {D:List Nat},(∀ d∈D,d<B)→valD B D<B ^ D.length
 | [],_=>by simp [valD]
 | d::t,h=>by
  rw [valD,List.length_cons,Nat.pow_succ]
  have h1:=zLn (D:=t) (fun x hx=>h x (by simp [hx]))
  have h2:=h d (by simp)
  have h3:(d+1)*B ^ t.length≤B*B ^ t.length:=Nat.mul_le_mul_right _ h2
  rw [Nat.add_mul,Nat.one_mul] at h3
  rw [Nat.mul_comm (B ^ t.length) B]
  omega
theorem zNm {B:Nat}:∀ {D E:List Nat},D.length=E.length→(∀ d∈D,d<B)→(∀ d∈E,d<B)→valD B D=valD B E→D=E
 | [],[],_,_,_,_=>rfl
 | [],_::_,h,_,_,_=>by simp at h
 | _::_,[],h,_,_,_=>by simp at h
 | d::D,e::E,hl,hd,he,h=>by
  rw [valD,valD] at h
  simp at hl
  rw [hl] at h
  have h1:=zLn (B:=B) (D:=D) (fun x hx=>hd x (by simp [hx]))
  have h2:=zLn (B:=B) (D:=E) (fun x hx=>he x (by simp [hx]))
  rw [hl] at h1
  have e1:d=e:=by
   rcases Nat.lt_trichotomy d e with h3 | h3 | h3
   ·have h4:(d+1)*B ^ E.length≤e*B ^ E.length:=Nat.mul_le_mul_right _ h3
    rw [Nat.add_mul,Nat.one_mul] at h4;omega
   ·exact h3
   ·have h4:(e+1)*B ^ E.length≤d*B ^ E.length:=Nat.mul_le_mul_right _ h3
    rw [Nat.add_mul,Nat.one_mul] at h4;omega
  subst e1
  rw [zNm hl (fun x hx=>hd x (by simp [hx])) (fun x hx=>he x (by simp [hx])) (by omega)]
def incrD (most:Nat):List Nat→Option (List Nat)
 | []=>none
 | d::t=>match incrD most t with
  | some t'=>some (d::t')
  | none=>if d<most then some ((d+1)::t.map fun _=>0) else none
theorem zEd (B:Nat):∀ t:List Nat,valD B (t.map fun _=>0)=0
 | []=>rfl
 | d::t=>by rw [List.map_cons,valD,zEd B t];simp
theorem zJr {most:Nat}:∀ {D:List Nat},(∀ d∈D,d≤most)→(incrD most D=none↔∀ d∈D,d=most)
 | [],_=>by simp [incrD]
 | d::t,h=>by
  have ih:=zJr (D:=t) (fun x hx=>h x (by simp [hx]))
  have hd:=h d (by simp)
  rw [incrD]
  cases hi:incrD most t with
  | some t' =>
   simp only []
   constructor
   ·intro e;cases e
   ·intro e
    rw [ih.2 (fun x hx=>e x (by simp [hx]))] at hi;cases hi
  | none =>
   simp only []
   have:=ih.1 hi
   split
   ·rename_i hc
    constructor
    ·intro e;cases e
    ·intro e;have:=e d (by simp);omega
   ·constructor
    ·intro _ x hx
     rcases List.mem_cons.1 hx with rfl | hx
     ·omega
     ·exact this x hx
    ·intro _;rfl
theorem zJs {most:Nat}:∀ {D:List Nat},(∀ d∈D,d=most)→valD (most+1) D+1=(most+1) ^ D.length
 | [],_=>by simp [valD]
 | d::t,h=>by
  rw [valD,List.length_cons,Nat.pow_succ,h d (by simp)]
  have:=zJs (D:=t) (fun x hx=>h x (by simp [hx]))
  rw [Nat.add_assoc,this,Nat.mul_add,Nat.mul_one,Nat.mul_comm]
theorem zJt {most:Nat}:∀ {D E:List Nat},(∀ d∈D,d≤most)→incrD most D=some E→valD (most+1) E=valD (most+1) D+1∧E.length=D.length∧∀ d∈E,d≤most
 | [],E,_,h=>by rw [incrD] at h;cases h
 | d::t,E,hd,h=>by
  rw [incrD] at h
  cases hi:incrD most t with
  | some t' =>
   rw [hi] at h
   cases h
   obtain ⟨h1,h2,h3⟩:=zJt (D:=t) (fun x hx=>hd x (by simp [hx])) hi
   refine ⟨by rw [valD,valD,h1,h2];omega,by simp [h2],fun x hx=>?_⟩
   rcases List.mem_cons.1 hx with rfl | hx
   ·exact hd _ (by simp)
   ·exact h3 x hx
  | none =>
   rw [hi] at h
   simp only [] at h
   split at h
   ·cases h
    have h1:=(zJr (D:=t) (fun x hx=>hd x (by simp [hx]))).1 hi
    have h2:=zJs h1
    refine ⟨?_,by simp,fun x hx=>?_⟩
    ·rw [valD,valD,zEd,List.length_map,Nat.add_mul,Nat.one_mul];omega
    ·rcases List.mem_cons.1 hx with rfl | hx
     ·omega
     ·rw [List.mem_map] at hx;obtain ⟨_,_,rfl⟩:=hx;omega
   ·cases h
def LD (os D:List Nat) (h:Nat):Nat:=match os.idxOf? h with
 | some j=>D.getD j 0
 | none=>0
theorem yBd {os:List Nat} (a:Nat→Nat) {h:Nat} (hm:h∈os):LD os (os.map a) h=a h:=by
 unfold LD
 cases hi:os.idxOf? h with
 | none=>rw [List.idxOf?_eq_none_iff] at hi;exact absurd hm hi
 | some j =>
  simp only []
  rw [List.idxOf?,List.findIdx?_eq_some_iff_getElem] at hi
  obtain ⟨h1,h2,_⟩:=hi
  rw [List.getD_eq_getElem?_getD,List.getElem?_map,List.getElem?_eq_getElem h1]
  simp at h2
  simp [h2]
section
variable (f l:List Prt) (hs:List Hl)
def orderL:List Nat:=ddL [] (occL f hs 0 f.length)
def MTried (most N i:Nat) (σ:MSt) (D:List Nat):Prop:=∀ E:List Nat,E.length=(orderL f hs).length→(∀ d∈E,d≤most)→valD (most+1) E<valD (most+1) D→fPart f l hs (LD (orderL f hs) E) N 0 i σ=none
structure MFit (most i:Nat):Prop where
 F:zZ f=true
 B:MBare f hs
 T:sevOf f hs 0=none
 L:∃ us,zG l=some us
 I:i<l.length
 M:∀ i (hi:i<l.length),(l[i]).2.1≤(most:Int)
variable {f l hs}
theorem MFit.head {most i N:Nat} {σ:MSt} (h:MFit f l hs most i) (h0:∀ (k:Nat) (q:Nat×Nat),σ[k]?≠some (some q)) {σ1:MSt} (hm:σ1∈aPart f l hs N 0 i σ) :
  fPart f l hs (LD (orderL f hs) ((orderL f hs).map (lensS l σ1))) N 0 i σ=some σ1∧∀ k∈orderL f hs,lensS l σ1 k≤most:=by
 obtain ⟨us,hl⟩:=h.L
 have hf:=zK h.F
 obtain ⟨hf0,hfe⟩:=xA h.F
 have hnew:=(yAn f l hs hf h.B hl h.M N).1 0 i σ σ1 hf0 h.I h.T hm
 rw [hfe] at hnew
 refine ⟨(zRs f l hs hl N).1 0 i σ σ1 h.I hm σ1 _ (MExt.refl _) (fun k q hk hq=>?_),fun k hk=>?_⟩
 ·rcases hnew k q hk hq with h1 | ⟨h1,_⟩
  ·exact absurd h1 (h0 k q)
  ·rw [yBd _ (by unfold orderL;rw [zLm];exact Or.inr h1)]
   unfold lensS;rw [hq]
 ·unfold orderL at hk
  rw [zLm] at hk
  rcases hk with hk | hk
  ·cases hk
  ·have hsev:isSev (hkind hs k)=true:=by
    unfold occL at hk
    rw [List.mem_filterMap] at hk
    obtain ⟨p,_,hp⟩:=hk
    exact (gQ f hs hp).1
   have hb:=(zRu f l hs hf h.B N).1 0 i σ σ1 hf0 h.T hm k (by rw [hfe];exact hk)
   obtain ⟨q,hq⟩:=hb
   rcases hnew k q hsev hq with h1 | ⟨_,h1⟩
   ·exact absurd h1 (h0 k q)
   ·unfold lensS;rw [hq];exact h1
theorem MTried.next {most i N:Nat} {σ:MSt} {D E:List Nat} (hD:D.length=(orderL f hs).length) (hd:∀ d∈D,d≤most) (hm:incrD most D=some E) (ht:MTried f l hs most N i σ D) (hp:fPart f l hs (LD (orderL f hs) D) N 0 i σ=none):MTried f l hs most N i σ E:=by
 intro G hG hg hlt
 obtain ⟨h1,_,_⟩:=zJt hd hm
 rcases Nat.lt_or_ge (valD (most+1) G) (valD (most+1) D) with h5 | h5
 ·exact ht G hG hg h5
 ·rw [zNm (B:=most+1) (D:=G) (E:=D) (by omega) (fun d hd'=>by have:=hg d hd';omega) (fun d hd'=>by have:=hd d hd';omega) (by omega)]
  exact hp
theorem MTried.start (f l:List Prt) (hs:List Hl) (most N i:Nat) (σ:MSt):MTried f l hs most N i σ ((orderL f hs).map fun _=>0):=by
 intro G hG hg hlt
 rw [zEd] at hlt;omega
end
structure RuleM where
 nm:ByteArray
 goal:Nat
 holes:List Hl
 fnd:List Prt
 by':List Prt
def kindI (l:List Prt) (i:Int):Option Nat:=if i<0 then none else (l[i.toNat]?).map (·.1)
def upN (l:List Prt) (i:Nat):Int:=upI l i i
def xP (l:List Prt) (k i:Nat):Bool :=
 if k=5 then kindI l (upN l i) == some 50
 else if k=7 then kindI l (upN l i) == some 50&&kindI l (upN l (upN l i).toNat) == some 13
 else if k=6 then kindI l (upN l i) == some 11 || kindI l (upN l i) == some 12
 else true
def vH (p:Prt) (h:Hl):Bool:=p.1 == 26&&decide (p.2.2=h.1)
def vD (l:List Prt) (h:Hl):Nat→Nat→Int→Int
 | 0,_,n=>n
 | m+1,i,n=>match l[i]? with
  | none=>n
  | some p=>if vH p h then (if xP l h.2 i then vD l h m (i+1) (n+1) else -1) else vD l h m (i+1) n
def yU (l:List Prt) (h:Hl):Int:=vD l h l.length 0 0
theorem zCq (l:List Prt) (h:Hl):∀ m i n,0≤n→i+m=l.length→0≤vD l h m i n→∀ p (hp:p<l.length),i≤p→vH l[p] h=true→xP l h.2 p=true
 | 0,i,n,hn,hi,_,p,hp,hip,_=>by omega
 | m+1,i,n,hn,hi,h0,p,hp,hip,hpl=>by
  rw [vD,List.getElem?_eq_getElem (by omega)] at h0
  simp only [] at h0
  by_cases e:i=p
  ·subst e
   rw [if_pos hpl] at h0
   split at h0
   ·assumption
   ·omega
  ·split at h0
   ·split at h0
    ·exact zCq l h m (i+1) (n+1) (by omega) (by omega) h0 p hp (by omega) hpl
    ·omega
   ·exact zCq l h m (i+1) n hn (by omega) h0 p hp (by omega) hpl
theorem zDd (l:List Prt) (h:Hl):∀ m i n,0≤n→i+m=l.length→n<vD l h m i n→∃ p,∃ hp:p<l.length,vH l[p] h=true
 | 0,i,n,hn,hi,h0=>by rw [vD] at h0;omega
 | m+1,i,n,hn,hi,h0=>by
  rw [vD,List.getElem?_eq_getElem (by omega)] at h0
  simp only [] at h0
  split at h0
  ·rename_i e;exact ⟨i,by omega,e⟩
  ·exact zDd l h m (i+1) n hn (by omega) h0
structure vP (f:List Prt) (hs:List Hl):Prop where
 well:zZ f=true
 uniq:∀ (a b:Nat) (ha:a<hs.length) (hb:b<hs.length),(hs[a]).1=(hs[b]).1→a=b
 leaf:∀ (p:Nat) (hp:p<f.length),(f[p]).1=26→(f[p]).2.1=0
 stmt:∀ (p:Nat) (hp:p<f.length),(f[p]).1=50→(f[p]).2.1=1
 plc:∀ (h:Nat) (hh:h<hs.length) (p:Nat) (hp:p<f.length),vH f[p] hs[h]=true→xP f (hs[h]).2 p=true
theorem zBi {f:List Prt} {uf:List Nat} (hf:zG f=some uf) {p:Nat} (hp:p<f.length) (h:(f[p]).2.1=0):zC f p=p+1:=by
 obtain ⟨q,h1,h2⟩:=kF hf hp
 obtain rfl:q=0:=by omega
 rw [advT] at h2;have:=Option.some.inj h2;omega
theorem zDe {f:List Prt} {uf:List Nat} (hf:zG f=some uf) {p:Nat} (hp:p<f.length) (h:(f[p]).2.1=1):p+1<f.length∧zC f (p+1)=zC f p:=by
 obtain ⟨q,h1,h2⟩:=kF hf hp
 obtain rfl:q=1:=by omega
 rw [advT] at h2
 split at h2
 ·rename_i hc
  rw [advT] at h2
  have:=(zN hf hp).2
  exact ⟨by omega,by simpa using h2⟩
 ·cases h2
theorem xT {f:List Prt} {p:Nat} {h:Hl} (e:yD f p h=true):(vE h.2=true∧∃ (h1:p<f.length) (h2:p+1<f.length),(f[p]).1=50∧vH (f[p+1]) h=true)∨(vE h.2=false∧∃ h1:p<f.length,vH (f[p]) h=true):=by
 unfold yD at e
 cases hs:vE h.2 with
 | true =>
  rw [hs,if_pos rfl] at e
  left
  split at e
  ·rename_i a b ha hb
   simp only [Bool.and_eq_true,beq_iff_eq] at e
   obtain ⟨h1,rfl⟩:=List.getElem?_eq_some_iff.1 ha
   obtain ⟨h2,rfl⟩:=List.getElem?_eq_some_iff.1 hb
   refine ⟨rfl,h1,h2,e.1,?_⟩
   unfold vH
   simp [e.2]
  ·cases e
 | false =>
  rw [hs] at e
  right
  simp only [Bool.false_eq_true,if_false] at e
  split at e
  ·rename_i a ha
   obtain ⟨h1,rfl⟩:=List.getElem?_eq_some_iff.1 ha
   refine ⟨rfl,h1,?_⟩
   unfold vH;exact e
  ·cases e
theorem kB {f:List Prt} {hs:List Hl} {p h:Nat} (e:zW f hs p=some h):∃ hh:h<hs.length,yD f p hs[h]=true:=by
 unfold zW at e
 rw [List.findIdx?_eq_some_iff_getElem] at e
 exact ⟨e.1,e.2.1⟩
theorem yC {p:Prt} {h:Hl} (e:vH p h=true):p.1=26∧p.2.2=h.1:=by
 unfold vH at e
 simpa using e
theorem vP.stands {f:List Prt} {hs:List Hl} (H:vP f hs) {p h:Nat} (hh:h<hs.length) (e:yD f p hs[h]=true):zW f hs p=some h:=by
 unfold zW
 rw [List.findIdx?_eq_some_iff_getElem]
 refine ⟨hh,e,fun j hj=>?_⟩
 simp only [Bool.not_eq_true]
 rw [Bool.eq_false_iff]
 intro e2
 rcases xT e with ⟨a1,a2,a3,a4,a5⟩ | ⟨a1,a2,a5⟩ <;> rcases xT e2 with ⟨b1,b2,b3,b4,b5⟩ | ⟨b1,b2,b5⟩
 ·have:=H.uniq h j hh (by omega) (by rw [← (yC a5).2,← (yC b5).2]);omega
 ·have:=(yC b5).1;omega
 ·have:=(yC a5).1;omega
 ·have:=H.uniq h j hh (by omega) (by rw [← (yC a5).2,← (yC b5).2]);omega
theorem vP.bare {f:List Prt} {hs:List Hl} (H:vP f hs):MBare f hs:=by
 have hf:=zK H.well
 intro p h hp ho q hpq hq
 obtain ⟨hh,e⟩:=kB ho
 rcases xT e with ⟨a1,a2,a3,a4,a5⟩ | ⟨a1,a2,a5⟩
 ·have h1:=zDe hf hp (H.stmt p hp a4)
  have h2:=zBi hf a3 (H.leaf _ a3 (yC a5).1)
  obtain rfl:q=p+1:=by omega
  cases hv:sevOf f hs (p+1) with
  | none=>rfl
  | some j =>
   exfalso
   obtain ⟨hj,e2⟩:=kB (gQ f hs hv).2
   rcases xT e2 with ⟨b1,b2,b3,b4,b5⟩ | ⟨b1,b2,b5⟩
   ·have:=(yC a5).1;omega
   ·have:=H.uniq h j hh hj (by rw [← (yC a5).2,← (yC b5).2])
    subst this
    rw [a1] at b1;cases b1
 ·have h2:=zBi hf hp (H.leaf _ hp (yC a5).1)
  omega
theorem vP.top {f:List Prt} {hs:List Hl} (H:vP f hs):sevOf f hs 0=none:=by
 obtain ⟨hf0,hfe⟩:=xA H.well
 cases hv:sevOf f hs 0 with
 | none=>rfl
 | some h =>
  exfalso
  obtain ⟨hsv,ho⟩:=gQ f hs hv
  obtain ⟨hh,e⟩:=kB ho
  have hk:hkind hs h=(hs[h]).2:=by unfold hkind;rw [List.getElem?_eq_getElem hh]
  rw [hk] at hsv
  have hf:=zK H.well
  rcases xT e with ⟨a1,a2,a3,a4,a5⟩ | ⟨a1,a2,a5⟩
  ·have h7:(hs[h]).2=7:=by
    unfold isSev at hsv;unfold vE at a1
    simp at hsv a1;omega
   have h1:=zDe hf hf0 (H.stmt 0 hf0 a4)
   have h2:=zBi hf a3 (H.leaf _ a3 (yC a5).1)
   have:=H.plc h hh _ a3 a5
   unfold xP at this
   rw [if_neg (by omega),if_pos h7] at this
   have hu:upN f (0+1)=0:=by unfold upN;rw [upI,if_pos (by omega)];rfl
   rw [hu] at this
   have h0:upN f (0:Int).toNat=-1:=rfl
   rw [h0] at this
   simp [kindI] at this
  ·have h6:(hs[h]).2=6:=by
    unfold isSev at hsv;unfold vE at a1
    simp at hsv a1;omega
   have:=H.plc h hh _ hf0 a5
   unfold xP at this
   rw [if_neg (by omega),if_neg (by omega),if_pos h6] at this
   have h0:upN f 0=-1:=rfl
   rw [h0] at this
   simp [kindI] at this
def holeP (f:List Prt) (hs:List Hl) (p:Nat):Option Nat :=
 if yJ f p=50∧yJ f (p+1)=26 then (match hs.findIdx? (fun h=>match f[p+1]? with
   | some b=>decide (b.2.2=h.1)
   | none=>false) with
  | some h=>if vE (hkind hs h) then some h else none
  | none=>none)
 else if yJ f p=26 then (match hs.findIdx? (fun h=>match f[p]? with
   | some b=>decide (b.2.2=h.1)
   | none=>false) with
  | some h=>if vE (hkind hs h) then none else some h
  | none=>none)
 else none
theorem vP.prog {f:List Prt} {hs:List Hl} (H:vP f hs) (p:Nat) (hp:p<f.length):holeP f hs p=zW f hs p:=by
 have hf:=zK H.well
 have hka:∀ i (hi:i<f.length),yJ f i=(f[i]).1:=fun i hi=>by unfold yJ;rw [List.getElem?_eq_getElem hi]
 have hhk:∀ h (hh:h<hs.length),hkind hs h=(hs[h]).2:=fun h hh=>by unfold hkind;rw [List.getElem?_eq_getElem hh]
 have hnone:(∀ h (hh:h<hs.length),¬ yD f p hs[h]=true)→zW f hs p=none:=by
  intro h
  unfold zW
  rw [List.findIdx?_eq_none_iff]
  intro x hx
  obtain ⟨i,hi,rfl⟩:=List.mem_iff_getElem.1 hx
  simpa using h i hi
 unfold holeP
 by_cases h50:yJ f p=50∧yJ f (p+1)=26
 ·rw [if_pos h50]
  have hp1:p+1<f.length:=by
   by_cases c:p+1<f.length
   ·exact c
   ·exfalso
    have:=h50.2
    unfold yJ at this
    rw [List.getElem?_eq_none (by omega)] at this
    cases this
  rw [hka p hp,hka _ hp1] at h50
  rw [List.getElem?_eq_getElem hp1]
  simp only []
  cases hx:hs.findIdx? (fun h=>decide ((f[p+1]).2.2=h.1)) with
  | none =>
   simp only []
   rw [hnone]
   intro h hh e
   rw [List.findIdx?_eq_none_iff] at hx
   rcases xT e with ⟨_,_,_,_,a5⟩ | ⟨_,_,a5⟩
   ·have:=hx _ (List.getElem_mem hh)
    rw [(yC a5).2] at this;simp at this
   ·have:=(yC a5).1;omega
  | some h =>
   simp only []
   have hx2:=hx
   rw [List.findIdx?_eq_some_iff_getElem] at hx
   obtain ⟨hh,g1,_⟩:=hx
   have g1:(f[p+1]).2.2=(hs[h]).1:=by simpa using g1
   rw [hhk h hh]
   by_cases c:vE (hs[h]).2=true
   ·rw [if_pos c]
    symm
    apply H.stands hh
    unfold yD
    rw [if_pos c,List.getElem?_eq_getElem hp,List.getElem?_eq_getElem hp1]
    simp [h50.1,h50.2,g1]
   ·rw [if_neg c,hnone]
    intro j hj e
    rcases xT e with ⟨a1,_,_,_,a5⟩ | ⟨_,_,a5⟩
    ·have:=H.uniq h j hh hj (by rw [← g1,(yC a5).2])
     subst this
     exact c a1
    ·have:=(yC a5).1;omega
 ·rw [if_neg h50]
  by_cases h26:yJ f p=26
  ·rw [if_pos h26,List.getElem?_eq_getElem hp]
   rw [hka p hp] at h26
   simp only []
   cases hx:hs.findIdx? (fun h=>decide ((f[p]).2.2=h.1)) with
   | none =>
    simp only []
    rw [hnone]
    intro h hh e
    rw [List.findIdx?_eq_none_iff] at hx
    rcases xT e with ⟨_,_,_,a4,a5⟩ | ⟨_,_,a5⟩
    ·omega
    ·have:=hx _ (List.getElem_mem hh)
     rw [(yC a5).2] at this;simp at this
   | some h =>
    simp only []
    rw [List.findIdx?_eq_some_iff_getElem] at hx
    obtain ⟨hh,g1,_⟩:=hx
    have g1:(f[p]).2.2=(hs[h]).1:=by simpa using g1
    rw [hhk h hh]
    by_cases c:vE (hs[h]).2=true
    ·rw [if_pos c,hnone]
     intro j hj e
     rcases xT e with ⟨_,_,_,a4,a5⟩ | ⟨a1,_,a5⟩
     ·omega
     ·have:=H.uniq h j hh hj (by rw [← g1,(yC a5).2])
      subst this
      rw [c] at a1;cases a1
    ·rw [if_neg c]
     symm
     apply H.stands hh
     unfold yD
     rw [if_neg c,List.getElem?_eq_getElem hp]
     simp [h26,g1]
  ·rw [if_neg h26,hnone]
   intro h hh e
   rcases xT e with ⟨_,_,a3,a4,a5⟩ | ⟨_,_,a5⟩
   ·exact h50 ⟨by rw [hka p hp];exact a4,by rw [hka _ a3];exact (yC a5).1⟩
   ·exact h26 (by rw [hka p hp];exact (yC a5).1)
end Go.Proofs.YtfalelkfhandfaaGreatDoor
