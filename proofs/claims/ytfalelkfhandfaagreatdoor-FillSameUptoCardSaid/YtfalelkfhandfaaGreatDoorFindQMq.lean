/- Layer 18 in plain Lean: what find.each goes through. -/
import Derived.Test.YtfalelkfhandfaaGreatDoorPackMq
import Derived.Test.YtfalelkfhandfaaGreatDoorFindPMq
import Derived.Test.YtfalelkfhandfaaGreatDoorCheckBMq
import Derived.Test.YtfalelkfhandfaaGreatDoorRuleAMq
namespace Go.Proofs.YtfalelkfhandfaaGreatDoor
set_option linter.all false

def alikeZ (r:RuleM) (p:Prt):Bool:=match r.fnd[0]? with
 | some q=>q.1 == 26 || (q.1 == 50 || (q.1 == p.1&&decide (q.2.2=p.2.2)))
 | none=>true
theorem zRz {r:RuleM} {l:List Prt} {i:Nat} (hi:i<l.length) (h:alikeZ r l[i]=false):atZ r l i=none:=by
 unfold alikeZ at h
 cases hf:r.fnd[0]? with
 | none=>rw [hf] at h;cases h
 | some q =>
  rw [hf] at h
  simp only [Bool.or_eq_false_iff,beq_eq_false_iff_ne] at h
  obtain ⟨h1,h2,h3⟩:=h
  have hn:zM r.fnd r.holes 0=none:=by
   unfold zM
   rw [List.findIdx?_eq_none_iff]
   intro g _
   unfold yC
   rw [hf]
   cases xM g.2 with
   | true =>
    rw [if_pos rfl]
    cases r.fnd[0+1]? with
    | none=>rfl
    | some b=>simp [h2]
   | false=>simp [h1]
  have ha:alikeP r.fnd l 0 i=false:=by
   unfold alikeP
   rw [hf,List.getElem?_eq_getElem hi]
   exact h3
  unfold atZ
  split
  ·rw [show ((i:Int)).toNat=i by omega]
   unfold fuelZ
   rw [aPart]
   have ho:oneOf r.fnd r.holes 0=none:=by unfold oneOf;rw [hn]
   rw [ho,ha]
   rfl
  ·rfl
theorem zPa {rules:List RuleM} {l:List Prt} (hl:zZ l=true) {i n:Nat} (hi:i<l.length) {r:RuleM} (hr:rules[n]?=some r) :
  oneM rules l i n=match atZ r (piece l i (zA l i)) 0 with
   | some τ=>[(n,i,(bindsOf r.holes τ).map fun b=>(b.1,b.2.1+(i:Int),b.2.2+(i:Int)))]
   | none=>[]:=by
 unfold oneM
 rw [hr]
 simp only []
 rw [zTu hl hi]
 cases h:atZ r (piece l i (zA l i)) 0 with
 | none=>rfl
 | some τ=>simp only [Option.map_some];rw [zCj _ _ _ (zUy h)]
theorem zWl {rules:List RuleM} {l:List Prt} {i n:Nat} (hi:i<l.length) {r:RuleM} (hr:rules[n]?=some r) (h:alikeZ r l[i]=false):oneM rules l i n=[]:=by
 unfold oneM
 rw [hr]
 simp only []
 rw [zRz hi h]
def accM (rules:List RuleM) (l:List Prt) (i n:Nat):List Mch:=(List.range i).flatMap (atM rules l)++(List.range n).flatMap (oneM rules l i)
theorem zBp (rules:List RuleM) (l:List Prt) (i n:Nat):accM rules l i (n+1)=accM rules l i n++oneM rules l i n:=by
 unfold accM;rw [List.range_succ,List.flatMap_append,List.append_assoc];simp
theorem zPb (rules:List RuleM) (l:List Prt) (i:Nat):accM rules l (i+1) 0=accM rules l i rules.length:=by
 unfold accM;rw [List.range_succ,List.flatMap_append];simp [atM]
theorem zSa (rules:List RuleM) (l:List Prt):accM rules l l.length 0=allM rules l:=by
 unfold accM allM;simp
end Go.Proofs.YtfalelkfhandfaaGreatDoor
namespace Go.Proofs.YtfalelkfhandfaaGreatDoor
set_option maxRecDepth 100000
set_option maxHeartbeats 32000000
set_option linter.all false
open Go.RowKit

def e2Rel (l:List Prt) (w:World) (iv:Value) (wr:World):Prop :=
 ∃ (k:Nat) (E:List Int),iv=.int .i64 ((k:Int)-1)∧k≤l.length∧E.length=l.length∧(∀ j,k≤j→j<l.length→E.getD j 0=(zA l j:Int)) ∧
  wr.heap[w.heap.size]?=some (.cells (E.map (Value.int .i64)).toArray 3 (0,0))∧Below w.heap.size w wr
def e2In (l:List Prt) (w:World) (E:List Int) (i q:Nat) (cv:Value) (wr:World):Prop :=
 ∃ c:Nat,cv=.int .i64 (c:Int)∧c≤q∧wr.heap[w.heap.size]?=some (.cells ((E.set i (zO l c (i+1):Int)).map (Value.int .i64)).toArray 3 (0,0))∧Below w.heap.size w wr
@[irreducible] def ends2Post (l:List Prt) (w0:World) (e:Ending) (w':World):Prop :=
 ∃ v,e=.returned v∧Below w0.heap.size w0 w'∧w'.ownsRow w0.heap.size 3 1 v l.length ((endsL l).map (Value.int .i64))
theorem jS {w:World} {B g:Nat} {n:Nat} {E:List Int} (h:w.heap[g]?=some (.cells (E.map (Value.int .i64)).toArray 3 (0,0))) (hB:B≤g) (hn:E.length=n) (hm:n≤1000000000):w.ownsRow B 3 1 (.slice (some ⟨g,0,none⟩) n n) n (E.map (Value.int .i64)) :=
 ⟨by simp [hn],Or.inr ⟨g,n,_,rfl,hB,h,Nat.le_refl _,by unfold maxLen;omega,by simp [hn],by simp;rw [List.take_of_length_le (by simp [hn])]⟩⟩
theorem zDr (l:List Prt) (hl:l.length≤1000000000) (us:List Nat) (hus:zF l=some us) (v:Value) (w:World) (hr:zG w v l) :
  Calls Tryz.prog 96 #[v] w (ends2Post l w):=by
 have HQ:Hid (∀ v' w',Below w.heap.size w w'→w'.ownsRow w.heap.size 3 1 v' l.length ((endsL l).map (Value.int .i64))→ends2Post l w (.returned v') w'):=Hd fun v' w' h1 h2=>by
  unfold ends2Post;exact ⟨v',rfl,h1,h2⟩
 generalize ends2Post l w=Q at *
 have HR:=Hd hr
 have HU:=Hd hus
 obtain ⟨va,vcap,rfl,hvc⟩:=hr.slice
 clear hr hus
 have hmk:=vQ l.length hl
 have hwl:IntKind.i64.wrap ((l.length:Int)-1)=(l.length:Int)-1:=wI (by omega)
 go_enter Tryz.func96,Tryz.ntmps96
 go_wp2_with fail
 have HK0:Hid ((w.alloc (.cells (Array.replicate l.length (Value.int .i64 0)) 3)).heap[w.heap.size]?=some (.cells ((List.replicate l.length (0:Int)).map (Value.int .i64)).toArray 3 (0,0))):=Hd (by
  have:=heap_alloc_new w (.cells (Array.replicate l.length (Value.int .i64 0)) 3)
  rw [this,List.map_replicate,List.toArray_replicate])
 have HB0:Hid (Below w.heap.size w (w.alloc (.cells (Array.replicate l.length (Value.int .i64 0)) 3))):=Hd ((Below.refl _ _).alloc (Nat.le_refl _) _)
 generalize w.alloc (.cells (Array.replicate l.length (Value.int .i64 0)) 3)=W0 at *
 generalize hBB:w.heap.size=B at *
 have HBB:=Hd hBB
 clear hBB
 go_loopw [4] (fun j wr=>e2Rel l w j wr) (fun j _=>(intOf j+1).toNat)
 case atStart =>
  refine ⟨l.length,List.replicate l.length 0,rfl,Nat.le_refl _,by simp,fun i h1 h2=>by omega,?_,?_⟩
  ·rw [HBB.out];exact HK0.out
  ·rw [HBB.out];exact HB0.out
 case round =>
  obtain ⟨k,E,rfl,hk,hEl,hEq,hh,hb⟩:=hrel
  rw [HBB.out] at hh hb
  have HB:=Hd hb
  have HH:=Hd hh
  have HEQ:=Hd hEq
  have HEL:=Hd hEl
  have hBlt:B<wr.heap.size:=lt_of_block hh
  clear hb hh hEq hEl
  by_cases hk0:0<k
  ·obtain ⟨i,rfl⟩:∃ i,k=i+1:=⟨k-1,by omega⟩
   rw [show (((i+1:Nat):Int)-1)=(i:Int) by omega]
   have hil:i<l.length:=hk
   obtain ⟨b,off,rfl,_,_,hbl,hcell⟩:=HR.out.at (HBB.out ▸ HB.out) (show 0<l.length by omega)
   obtain ⟨q,hq1,hq2,hq4,hq3⟩:=zBe HU.out hil
   have c0:wr.cell? ⟨b,off+i*3+1,none⟩=some (.int .i64 (q:Int)):=by rw [(hcell i hil).2.1,hq1]
   have HKI:=Hd hq3
   have HKE:=Hd hq2
   have hi0:(0:Int)≤i:=by omega
   have hil':(i:Int)<l.length:=by omega
   have hic:(i:Int)<vcap:=by omega
   have hwi:IntKind.i64.wrap ((i:Int)+1)=(i:Int)+1:=wI (by omega)
   have hwm:IntKind.i64.wrap ((i:Int)-1)=(i:Int)-1:=wI (by omega)
   have c1:wr.cell? ⟨B,i,none⟩=some (.int .i64 (E.getD i 0)):=by
    simp [World.cell?,HH.out,HEL.out,hil,List.getD_eq_getElem?_getD]
   have z1:wr.frozen? ⟨B,i,none⟩=false:=by simp [World.frozen?,HH.out]
   have hbB:b≠B:=by have:=HBB.out;omega
   have c0':(wr.setCell ⟨B,i,none⟩ (.int .i64 ((i:Int)+1))).cell? ⟨b,off+i*3+1,none⟩=some (.int .i64 (q:Int)):=by
    rw [xC (by exact hbB)];exact c0
   have HAT:Hid (e2In l w E i q (.int .i64 0) (wr.setCell ⟨B,i,none⟩ (.int .i64 ((i:Int)+1)))):=Hd ⟨0,rfl,Nat.zero_le _,by
    rw [HBB.out,heap_setCell_same _ _ _ _ _ _ HH.out,List.setIfInBounds_toArray,← List.map_set];rfl,by
    rw [HBB.out];exact HB.out.setCell (p:=⟨B,i,none⟩) (Nat.le_refl _) _⟩
   clear hcell hq1 hq2 hq3 hk0 c0 hbB
   go_wp2_with fail
   clear c1 z1 c0'
   go_loopw [25] (fun cv wx=>e2In l w E i q cv wx) (fun cv _=>q-(intOf cv).toNat)
   case atStart=>exact HAT.out
   case round =>
    obtain ⟨c,rfl,hcq,hh2,hb2⟩:=hrel
    rw [HBB.out] at hh2 hb2
    have HH2:=Hd hh2
    have HB2:=Hd hb2
    clear hh2 hb2 HAT
    by_cases hlt:c<q
    ·obtain ⟨x1,x2⟩:=HKI.out c hlt
     have HXS:=Hd (xR l c (i+1))
     generalize zO l c (i+1)=x at *
     have d1:wr.cell? ⟨B,i,none⟩=some (.int .i64 (x:Int)):=by
      simp [World.cell?,HH2.out,HEL.out,hil]
     have d2:wr.cell? ⟨B,x,none⟩=some (.int .i64 (zA l x:Int)):=by
      have:=HEQ.out x (by omega) x2
      rw [List.getD_eq_getElem?_getD] at this
      simp only [World.cell?,HH2.out]
      rw [← this]
      simp [HEL.out,x2,show ¬ i=x by omega]
     have d3:wr.frozen? ⟨B,i,none⟩=false:=by simp [World.frozen?,HH2.out]
     have HN1:Hid ((wr.setCell ⟨B,i,none⟩ (.int .i64 (zA l x:Int))).heap[w.heap.size]?=some (.cells ((E.set i (zO l (c+1) (i+1):Int)).map (Value.int .i64)).toArray 3 (0,0))):=Hd (by
      rw [HBB.out,HXS.out,heap_setCell_same _ _ _ _ _ _ HH2.out,List.setIfInBounds_toArray,← List.map_set,List.set_set])
     have HN2:Hid (Below w.heap.size w (wr.setCell ⟨B,i,none⟩ (.int .i64 (zA l x:Int)))):=Hd (by
      rw [HBB.out];exact HB2.out.setCell (p:=⟨B,i,none⟩) (Nat.le_refl _) _)
     have hx0:(0:Int)≤(x:Int):=by omega
     have hxl:(x:Int)<l.length:=by omega
     have hci:(c:Int)<q:=by omega
     have hwc:IntKind.i64.wrap ((c:Int)+1)=(c:Int)+1:=wI (by omega)
     generalize zA l x=y at *
     clear HXS
     go_wp2_with fail
     refine ⟨⟨c+1,by go_num,by omega,HN1.out,HN2.out⟩,by simp [intOf];omega⟩
    ·obtain rfl:c=q:=by omega
     have hci:¬ (c:Int)<(c:Int):=by omega
     have HN:Hid (e2Rel l w (.int .i64 ((i:Int)-1)) wr):=Hd ⟨i,E.set i (zA l i:Int),rfl,by omega,by rw [List.length_set];exact HEL.out,fun j h1 h2=>by
      rw [List.getD_eq_getElem?_getD,List.getElem?_set]
      by_cases e:i=j
      ·subst e;(rw [if_pos rfl,if_pos (by rw [HEL.out];exact hil)];try rfl)
      ·rw [if_neg e,← List.getD_eq_getElem?_getD];exact HEQ.out j (by omega) h2,by rw [HBB.out,← HKE.out];exact HH2.out,by rw [HBB.out];exact HB2.out⟩
     go_wp2_with fail
     refine ⟨HN.out,by simp [intOf];try omega⟩
  ·obtain rfl:k=0:=by omega
   rw [show (((0:Nat):Int)-1)=-1 by rfl]
   have hEE:E=endsL l:=by
    apply List.ext_getElem (by rw [HEL.out,zN])
    intro j h1 h2
    have h3:=HEQ.out j (by omega) (by have:=HEL.out;omega)
    have h4:=xJ (l:=l) (j:=j) (by have:=HEL.out;omega)
    rw [List.getD_eq_getElem?_getD,List.getElem?_eq_getElem h1] at h3
    rw [List.getElem?_eq_getElem h2] at h4
    simp only [Option.getD_some] at h3
    rw [h3];exact (Option.some.inj h4).symm
   subst hEE
   have HX:=Hd (HQ.out (.slice (some ⟨B,0,none⟩) l.length l.length) wr HB.out (jS HH.out (Nat.le_refl _) (zN l) hl))
   go_wp2_with fail
   exact HX.out
end Go.Proofs.YtfalelkfhandfaaGreatDoor
namespace Go.Proofs.YtfalelkfhandfaaGreatDoor
set_option linter.all false

def bOf (bs:List Bnd) (h:Nat):Nat×Nat:=match bs[h]? with
 | some x=>(x.2.1.toNat,x.2.2.toNat)
 | none=>(0,0)
def BindsIn (bs:List Bnd) (l:List Prt):Prop:=∀ x∈bs,0≤x.2.1∧x.2.1≤x.2.2∧x.2.2≤l.length
theorem zEa {bs:List Bnd} {h:Nat} (hh:h<bs.length):bOf bs h=((bs[h]).2.1.toNat,(bs[h]).2.2.toNat):=by unfold bOf;rw [List.getElem?_eq_getElem hh]
theorem gC {bs:List Bnd} {l:List Prt} (hb:BindsIn bs l) (h:Nat):(bOf bs h).1≤(bOf bs h).2∧(bOf bs h).2≤l.length:=by
 by_cases hh:h<bs.length
 ·have:=hb _ (List.getElem_mem hh)
  rw [zEa hh]
  simp only []
  omega
 ·unfold bOf
  rw [List.getElem?_eq_none (by omega)]
  simp
section
variable {t l:List Prt} {hs:List Hl} {b:Nat→Nat×Nat}
theorem zEb {m:Nat} (hb:∀ h,(b h).2-(b h).1≤m):∀ n p,sizeS t hs b n p≤n*(m+1)
 | 0,p=>by rw [sizeS];omega
 | n+1,p=>by
  rw [sizeS,Nat.add_mul]
  split
  ·cases zM t hs p with
   | some h =>
    simp only []
    have h1:=hb h
    have h2:=zEb hb n (if zX t p=50 then p+2 else p+1)
    omega
   | none =>
    simp only []
    have h2:=zEb hb n (p+1)
    omega
  ·omega
theorem zPl (H:xN t hs) {m:Nat} (hb:∀ h,(b h).2-(b h).1≤m) {n p:Nat} (hp:p<t.length) (hn:2*(zA t p-p)≤n):(mPart t l hs b n p).length≤t.length*(m+1):=by
 have h1:=(zRy t l hs b H n).1 p hp hn t.length (by omega)
 have h2:=zEb (t:=t) (hs:=hs) hb t.length p
 omega
theorem zOe {n p h:Nat} (ho:zM t hs p=some h):mPart t l hs b (n+1) p=srcL l (b h).1 (b h).2:=by rw [mPart,ho]
theorem zHy {n p:Nat} (ho:zM t hs p=none) (hp:p<t.length):mPart t l hs b (n+1) p=(((t[p]).1,(cntP ((mKids t l hs b n (p+1) (zA t p)).map (·.1)):Int),(t[p]).2.2),-1)::mKids t l hs b n (p+1) (zA t p):=by
 rw [mPart,ho,List.getElem?_eq_getElem hp]
theorem zWr {n p:Nat}:mKids t l hs b (n+1) p p=[]:=by rw [mKids,if_pos rfl]
theorem zVg {n p pend:Nat} (h:p≠pend):mKids t l hs b (n+1) p pend=mPart t l hs b n p++mKids t l hs b n (zA t p) pend:=by rw [mKids,if_neg h]
theorem zAi (hb:∀ h,(b h).1≤(b h).2∧(b h).2≤l.length) (hv:∀ h,∃ ts,zF (piece l (b h).1 (b h).2)=some ts) (n p:Nat):∃ ts,zF ((mPart t l hs b n p).map (·.1))=some ts:=by
 rw [(zAg t l hs b hb n).1 p]
 obtain ⟨ts,h,_⟩:=(zIj t hs (fun h=>piece l (b h).1 (b h).2) hv n).1 p
 exact ⟨ts,h⟩
end
def intsV (xs:List Int):List Go.Value:=xs.map (Go.Value.int .i64)
end Go.Proofs.YtfalelkfhandfaaGreatDoor
namespace Go.Proofs.YtfalelkfhandfaaGreatDoor
set_option maxRecDepth 100000
set_option maxHeartbeats 32000000
set_option linter.all false
attribute [local irreducible] Calls
open Go.RowKit

theorem zPe (p:Prt):yP p≤10:=by
 unfold yP lvW
 by_cases h1:p.1=36∨p.1=35
 ·rw [if_pos h1];omega
 ·rw [if_neg h1]
  by_cases h2:p.1=37
  ·rw [if_pos h2]
   repeat' split
   all_goals omega
  ·rw [if_neg h2];omega
theorem zKc (p:Prt) (nth:Nat) (hn:nth<100000000) (hs:p.2.2.size≤1048576) (w:World) (hM:MaxC w) :
  Calls Tryz.prog 87 #[partA p,.int .i64 (nth:Int)] w fun e w'=>e=.returned (.int .i64 (yK p nth:Int))∧Below w.heap.size w w':=by
 have HQ:Hid (∀ x w',(yK p nth:Int)=x→Below w.heap.size w w'→(fun (e:Ending) w'=>e=.returned (.int .i64 (yK p nth:Int))∧Below w.heap.size w w') (.returned (.int .i64 x)) w'):=Hd fun x w' h hb=>⟨by rw [h],hb⟩
 generalize (fun (e:Ending) w'=>e=.returned (.int .i64 (yK p nth:Int))∧Below w.heap.size w w')=Q at *
 obtain ⟨k,n,s⟩:=p
 have HV:=Hd (fun W (hb:Below w.heap.size w W)=>zCl (k,n,s) hs W (hM.below hb))
 unfold partA at HV ⊢
 simp only [] at hs HQ HV ⊢
 have HX:=Hd ((Below.refl w.heap.size w).alloc (Nat.le_refl _) (.cells #[.int .u8 (k:Int),.int .i64 n,.string s] 38))
 have HPK:Hid (PK (w.alloc (.cells #[.int .u8 (k:Int),.int .i64 n,.string s] 38)) w.heap.size (k,n,s)):=Hd (PK.alloc_new w (k,n,s))
 by_cases h37:k=37
 ·subst h37
  rw [show ((37:Nat):Int)=(37:Int) from rfl] at HX HPK HV ⊢
  have hl:yK (37,n,s) nth=if nth=0 then yP (37,n,s) else if nth=1 then yP (37,n,s)+1 else 0:=by unfold yK;rw [if_pos rfl]
  have hlv:yP (37,n,s)≤10:=zPe _
  generalize yP (37,n,s)=lv at *
  by_cases h0:nth=0
  ·subst h0
   rw [if_pos rfl] at hl
   have HJ:=Hd hl
   clear hl
   clear hM
   go_enter Tryz.func87,Tryz.ntmps87
   go_upto_region 1 with (fail)
   generalize w.alloc (.cells #[.int .u8 (37:Int),.int .i64 n,.string s] 38)=W1 at *
   have p0:=HPK.out.c0;have p1:=HPK.out.c1;have p2:=HPK.out.c2
   simp only [] at p0 p1 p2
   go_wp2_with fail
   refine (HV.out W1 HX.out).mono ?_
   rintro e w2 ⟨rfl,hb⟩
   have HZ:=Hd (HQ.out _ w2 (by rw [HJ.out]) (zB HX.out hb))
   clear hb p0 p1 p2
   go_wp2_with fail
   exact HZ.out
  by_cases h1:nth=1
  ·subst h1
   rw [if_neg (by decide),if_pos rfl] at hl
   have HJ:=Hd hl
   clear hl
   clear hM
   go_enter Tryz.func87,Tryz.ntmps87
   go_upto_region 1 with (fail)
   generalize w.alloc (.cells #[.int .u8 (37:Int),.int .i64 n,.string s] 38)=W1 at *
   have p0:=HPK.out.c0;have p1:=HPK.out.c1;have p2:=HPK.out.c2
   simp only [] at p0 p1 p2
   go_wp2_with fail
   refine (HV.out W1 HX.out).mono ?_
   rintro e w2 ⟨rfl,hb⟩
   have HZ:=Hd (HQ.out _ w2 (by rw [HJ.out]) (zB HX.out hb))
   clear hb p0 p1 p2
   go_wp2_with fail
   exact HZ.out
  have HJ:=Hd (by rw [if_neg h0,if_neg h1] at hl;exact hl:yK (37,n,s) nth=0)
  have g0:((nth:Int) == 0)=false:=by rw [beq_eq_false_iff_ne];omega
  have g1:((nth:Int) == 1)=false:=by rw [beq_eq_false_iff_ne];omega
  clear hl h0 h1
  clear hM
  go_enter Tryz.func87,Tryz.ntmps87
  go_upto_region 1 with (fail)
  generalize w.alloc (.cells #[.int .u8 (37:Int),.int .i64 n,.string s] 38)=W1 at *
  have p0:=HPK.out.c0;have p1:=HPK.out.c1;have p2:=HPK.out.c2
  simp only [] at p0 p1 p2
  go_wp2_with fail
  have HZ:=Hd (HQ.out 0 W1 (by rw [HJ.out];rfl) HX.out)
  exact HZ.out
 have g37:((k:Int) == 37)=false:=by rw [beq_eq_false_iff_ne];omega
 by_cases h36:k=36
 ·subst h36
  clear g37 h37
  rw [show ((36:Nat):Int)=(36:Int) from rfl] at HX HPK ⊢
  have HJ:=Hd (by unfold yK;simp:yK (36,n,s) nth=6)
  clear hM
  go_enter Tryz.func87,Tryz.ntmps87
  go_upto_region 1 with (fail)
  generalize w.alloc (.cells #[.int .u8 (36:Int),.int .i64 n,.string s] 38)=W1 at *
  have p0:=HPK.out.c0;have p1:=HPK.out.c1;have p2:=HPK.out.c2
  simp only [] at p0 p1 p2
  go_wp2_with fail
  have HZ:=Hd (HQ.out 6 W1 (by rw [HJ.out];rfl) HX.out)
  exact HZ.out
 by_cases h35:k=35
 ·subst h35
  clear g37 h37
  rw [show ((35:Nat):Int)=(35:Int) from rfl] at HX HPK ⊢
  have HJ:=Hd (by unfold yK;simp:yK (35,n,s) nth=6)
  clear hM
  go_enter Tryz.func87,Tryz.ntmps87
  go_upto_region 1 with (fail)
  generalize w.alloc (.cells #[.int .u8 (35:Int),.int .i64 n,.string s] 38)=W1 at *
  have p0:=HPK.out.c0;have p1:=HPK.out.c1;have p2:=HPK.out.c2
  simp only [] at p0 p1 p2
  go_wp2_with fail
  have HZ:=Hd (HQ.out 6 W1 (by rw [HJ.out];rfl) HX.out)
  exact HZ.out
 have g36:((k:Int) == 36)=false:=by rw [beq_eq_false_iff_ne];omega
 have g35:((k:Int) == 35)=false:=by rw [beq_eq_false_iff_ne];omega
 by_cases hkk:29≤k∧k≤34
 ·have hk6:k=29∨k=30∨k=31∨k=32∨k=33∨k=34:=by omega
  clear g35 g36 g37
  by_cases ht:nth=0
  ·subst ht
   have hj:yK (k,n,s) 0=7:=by unfold yK;rw [if_neg h37,if_neg (by simp only [];omega),if_pos hkk,if_pos rfl]
   have HJ:=Hd hj
   clear hj h35 h36 h37 hkk
   rcases hk6 with rfl | rfl | rfl | rfl | rfl | rfl
   all_goals
    clear hM
    go_enter Tryz.func87,Tryz.ntmps87
    go_upto_region 1 with (fail)
    have p0:=HPK.out.c0;have p1:=HPK.out.c1;have p2:=HPK.out.c2
    simp only [] at p0 p1 p2
    go_wp2_with fail
    have HZ:=Hd (HQ.out 7 _ (by rw [HJ.out];rfl) HX.out)
    exact HZ.out
  ·have hj:yK (k,n,s) nth=0:=by unfold yK;rw [if_neg h37,if_neg (by simp only [];omega),if_pos hkk,if_neg ht]
   have g0:((nth:Int) == 0)=false:=by rw [beq_eq_false_iff_ne];omega
   clear ht
   have HJ:=Hd hj
   clear hj h35 h36 h37 hkk
   rcases hk6 with rfl | rfl | rfl | rfl | rfl | rfl
   all_goals
    clear hM
    go_enter Tryz.func87,Tryz.ntmps87
    go_upto_region 1 with (fail)
    have p0:=HPK.out.c0;have p1:=HPK.out.c1;have p2:=HPK.out.c2
    simp only [] at p0 p1 p2
    go_wp2_with fail
    have HZ:=Hd (HQ.out 0 _ (by rw [HJ.out];rfl) HX.out)
    exact HZ.out
 have g29:((k:Int) == 29)=false:=by rw [beq_eq_false_iff_ne];omega
 have g30:((k:Int) == 30)=false:=by rw [beq_eq_false_iff_ne];omega
 have g31:((k:Int) == 31)=false:=by rw [beq_eq_false_iff_ne];omega
 have g32:((k:Int) == 32)=false:=by rw [beq_eq_false_iff_ne];omega
 have g33:((k:Int) == 33)=false:=by rw [beq_eq_false_iff_ne];omega
 have g34:((k:Int) == 34)=false:=by rw [beq_eq_false_iff_ne];omega
 by_cases h61:k=61
 ·subst h61
  rw [show ((61:Nat):Int)=(61:Int) from rfl] at HX HPK ⊢
  clear g35 g36 g37 h35 h36 h37 hkk
  clear g29 g30 g31 g32 g33 g34
  by_cases ht:nth=2
  ·subst ht
   have HJ:=Hd (by unfold yK;simp:yK (61,n,s) 2=7)
   clear hM
   go_enter Tryz.func87,Tryz.ntmps87
   go_upto_region 1 with (fail)
   generalize w.alloc (.cells #[.int .u8 (61:Int),.int .i64 n,.string s] 38)=W1 at *
   have p0:=HPK.out.c0;have p1:=HPK.out.c1;have p2:=HPK.out.c2
   simp only [] at p0 p1 p2
   go_wp2_with fail
   have HZ:=Hd (HQ.out 7 W1 (by rw [HJ.out];rfl) HX.out)
   exact HZ.out
  ·have g0:((nth:Int) == 2)=false:=by rw [beq_eq_false_iff_ne];omega
   have hj:yK (61,n,s) nth=0:=by unfold yK;simp [ht]
   clear ht
   have HJ:=Hd (by exact hj:yK (61,n,s) nth=0)
   clear hM
   go_enter Tryz.func87,Tryz.ntmps87
   go_upto_region 1 with (fail)
   generalize w.alloc (.cells #[.int .u8 (61:Int),.int .i64 n,.string s] 38)=W1 at *
   have p0:=HPK.out.c0;have p1:=HPK.out.c1;have p2:=HPK.out.c2
   simp only [] at p0 p1 p2
   go_wp2_with fail
   have HZ:=Hd (HQ.out 0 W1 (by rw [HJ.out];rfl) HX.out)
   exact HZ.out
 have g61:((k:Int) == 61)=false:=by rw [beq_eq_false_iff_ne];omega
 have hj:yK (k,n,s) nth=0:=by unfold yK;rw [if_neg h37,if_neg (by simp only [];omega),if_neg (by simp only [];omega),if_neg h61]
 clear h37 h36 h35 hkk h61
 have HJ:=Hd (by exact hj:yK (k,n,s) nth=0)
 clear hM
 go_enter Tryz.func87,Tryz.ntmps87
 go_upto_region 1 with (fail)
 generalize w.alloc (.cells #[.int .u8 (k:Int),.int .i64 n,.string s] 38)=W1 at *
 have p0:=HPK.out.c0;have p1:=HPK.out.c1;have p2:=HPK.out.c2
 simp only [] at p0 p1 p2
 go_wp2_with fail
 have HZ:=Hd (HQ.out 0 W1 (by rw [HJ.out];rfl) HX.out)
 exact HZ.out
end Go.Proofs.YtfalelkfhandfaaGreatDoor
namespace Go.Proofs.YtfalelkfhandfaaGreatDoor
set_option linter.all false

theorem jP {l:List Prt} {ts:List Nat} (h:zF l=some ts):xE l=(ts.length:Int):=by unfold xE;rw [h]
theorem zAj {hs:List Hl} {τ:MSt} (hn:τ.length=hs.length) {h:Nat} (hh:h<hs.length) {q:Nat×Nat} (hq:τ[h]?=some (some q)):∃ h2:h<(bindsOf hs τ).length,(bindsOf hs τ)[h]=((hs[h]).1,(q.1:Int),(q.2:Int)):=by
 have h1:h<τ.length:=by omega
 have h2:h<(bindsOf hs τ).length:=by unfold bindsOf;rw [List.length_zipWith];omega
 refine ⟨h2,?_⟩
 have e:τ[h]=some q:=by rw [List.getElem?_eq_getElem h1] at hq;exact Option.some.inj hq
 have e2:(bindsOf hs τ)[h]=bindOf hs[h] τ[h]:=List.getElem_zipWith
 rw [e2,e];rfl
theorem zGq {r:RuleM} {l:List Prt} {i:Int} {τ:MSt} (h:atZ r l i=some τ):(fun k=>piece l (bOf (bindsOf r.holes τ) k).1 (bOf (bindsOf r.holes τ) k).2)=valOf l τ:=by
 obtain ⟨h1,h2,h3,h4,h5,h6,h7⟩:=jH h
 funext k
 by_cases hk:k<r.holes.length
 ·obtain ⟨q,hq,_⟩:=h7 k hk
  obtain ⟨hb,e⟩:=zAj h6 hk hq
  unfold valOf
  rw [hq,zEa hb,e]
  simp
 ·have e1:τ[k]?=none:=List.getElem?_eq_none (by omega)
  have e2:(bindsOf r.holes τ)[k]?=none:=List.getElem?_eq_none (by unfold bindsOf;rw [List.length_zipWith];omega)
  unfold valOf bOf
  rw [e1,e2]
  exact zEf l 0
theorem zMs {r:RuleM} {l:List Prt} {i:Nat} {τ:MSt} (h:atZ r l (i:Int)=some τ) {k:Nat} (hk:k<r.holes.length):∃ q1 q2 n:Nat,(∃ hb:k<(bindsOf r.holes τ).length,(bindsOf r.holes τ)[k]=((r.holes[k]).1,(q1:Int),(q2:Int)))∧i≤q1∧q1≤q2∧q2≤zA l i∧xE (piece l q1 q2)=(n:Int)∧(isSev (r.holes[k]).2=false→n=1∧q1<l.length∧mayB (r.holes[k]).2 (zX l q1)=true):=by
 obtain ⟨h1,h2,h3,h4,h5,h6,h7⟩:=jH h
 obtain ⟨q,hq,g1,g2,g3,⟨K,g4⟩,g5⟩:=h7 k hk
 rw [show ((i:Int)).toNat=i by omega] at g1 g3
 have hl:=zI h2
 have he:=zJ hl (show i<l.length by omega)
 obtain ⟨ts,t1,t2⟩:=fH hl K q.1 q.2 (by omega) g4
 have hkd:hkind r.holes k=(r.holes[k]).2:=by unfold hkind;rw [List.getElem?_eq_getElem hk]
 rw [hkd] at g5
 refine ⟨q.1,q.2,ts.length,zAj h6 hk hq,g1,g2,g3,jP t1,fun hs=>?_⟩
 obtain ⟨a1,a2,a3⟩:=g5 hs
 obtain ⟨t,ht⟩:=fS hl a1
 rw [a2,t1] at ht
 cases ht
 exact ⟨rfl,a1,a3⟩
theorem zMt {r:RuleM} {l:List Prt} {i:Int} {τ:MSt} (h:atZ r l i=some τ):BindsIn (bindsOf r.holes τ) l∧(∀ k,∃ ts,zF (piece l (bOf (bindsOf r.holes τ) k).1 (bOf (bindsOf r.holes τ) k).2)=some ts)∧(mPart r.fnd l r.holes (bOf (bindsOf r.holes τ)) (fuelZ r.fnd) 0).map (·.1)=piece l i.toNat (zA l i.toNat):=by
 obtain ⟨h1,h2,h3,h4,h5,h6,h7⟩:=jH h
 have hl:=zI h2
 have he:=zJ hl (show i.toNat<l.length by omega)
 have hb:BindsIn (bindsOf r.holes τ) l:=by
  intro x hx
  obtain ⟨k,hk,rfl⟩:=List.mem_iff_getElem.1 hx
  have hk':k<r.holes.length:=by unfold bindsOf at hk;rw [List.length_zipWith] at hk;omega
  obtain ⟨q,hq,g1,g2,g3,_,_⟩:=h7 k hk'
  obtain ⟨_,e⟩:=zAj h6 hk' hq
  rw [e]
  simp only []
  omega
 refine ⟨hb,fun k=>?_,?_⟩
 ·have e:piece l (bOf (bindsOf r.holes τ) k).1 (bOf (bindsOf r.holes τ) k).2=valOf l τ k:=congrFun (zGq h) k
  rw [e]
  unfold valOf
  by_cases hk:k<r.holes.length
  ·obtain ⟨q,hq,g1,g2,g3,⟨K,g4⟩,_⟩:=h7 k hk
   obtain ⟨ts,t1,_⟩:=fH hl K q.1 q.2 (by omega) g4
   rw [hq]
   exact ⟨ts,t1⟩
  ·rw [List.getElem?_eq_none (by omega)]
   exact ⟨[],kZ⟩
 ·rw [(zAg r.fnd l r.holes (bOf (bindsOf r.holes τ)) (gC hb) (fuelZ r.fnd)).1 0,zGq h]
  exact zTv h
section
variable (t:List Prt) (hs:List Hl) (b:Nat→Nat×Nat)
end
section
variable {t l:List Prt} {hs:List Hl} {b:Nat→Nat×Nat}
theorem zSl (hl:SmallL l) (i:Nat):(zT l i).1<256∧(zT l i).2.2.size≤1048576:=by
 unfold zT
 by_cases h:i<l.length
 ·have:=hl.2 _ (List.getElem_mem h)
  simpa [List.getD_eq_getElem?_getD,h] using this
 ·rw [List.getD_eq_getElem?_getD,List.getElem?_eq_none (by omega)]
  decide
theorem zOf (ht:SmallL t) (hl:SmallL l):∀ n,(∀ p,∀ x∈mPart t l hs b n p,x.1.1<256∧x.1.2.2.size≤1048576)∧(∀ p pend,∀ x∈mKids t l hs b n p pend,x.1.1<256∧x.1.2.2.size≤1048576)
 | 0=>⟨(fun p x hx=>by rw [mPart] at hx;cases hx),(fun p pend x hx=>by rw [mKids] at hx;cases hx)⟩
 | n+1=>by
  obtain ⟨h1,h2⟩:=zOf ht hl n
  constructor
  ·intro p x hx
   rw [mPart] at hx
   cases ho:zM t hs p with
   | some h =>
    rw [ho] at hx
    simp only [] at hx
    unfold srcL at hx
    obtain ⟨k,_,rfl⟩:=List.mem_map.1 hx
    exact zSl hl k
   | none =>
    rw [ho] at hx
    simp only [] at hx
    cases hp:t[p]? with
    | none=>rw [hp] at hx;cases hx
    | some a =>
     rw [hp] at hx
     simp only [] at hx
     rcases List.mem_cons.1 hx with rfl | hx
     ·obtain ⟨hp',rfl⟩:=List.getElem?_eq_some_iff.1 hp
      have:=ht.2 _ (List.getElem_mem hp')
      exact this
     ·exact h2 _ _ x hx
  ·intro p pend x hx
   rw [mKids] at hx
   split at hx
   ·cases hx
   ·rcases List.mem_append.1 hx with hx | hx
    ·exact h1 _ x hx
    ·exact h2 _ _ x hx
end
end Go.Proofs.YtfalelkfhandfaaGreatDoor
namespace Go.Proofs.YtfalelkfhandfaaGreatDoor
set_option linter.all false

def okB (l:List Prt) (h:Hl) (b:Bnd):Bool :=
 decide (b.1=h.1)&&(decide (0≤b.2.1∧b.2.1≤b.2.2∧b.2.2≤l.length)&&(decide (0≤xE (piece l b.2.1.toNat b.2.2.toNat))&&(isSev h.2 || (decide (xE (piece l b.2.1.toNat b.2.2.toNat)=1)&&mayB h.2 (zX l b.2.1.toNat)))))
def rightB (r:RuleM) (l:List Prt) (bs:List Bnd):Bool:=decide (bs.length=r.holes.length)&&(r.holes.zip bs).all fun x=>okB l x.1 x.2
theorem vD {r:RuleM} {l:List Prt} {bs:List Bnd}:rightB r l bs=true↔bs.length=r.holes.length∧∀ h (hh:h<r.holes.length) (hb:h<bs.length),okB l r.holes[h] bs[h]=true:=by
 unfold rightB
 rw [Bool.and_eq_true,decide_eq_true_eq,List.all_eq_true]
 constructor
 ·rintro ⟨h1,h2⟩
  refine ⟨h1,fun h hh hb=>?_⟩
  exact h2 (r.holes[h],bs[h]) (List.mem_iff_getElem.2 ⟨h,by rw [List.length_zip];omega,by rw [List.getElem_zip]⟩)
 ·rintro ⟨h1,h2⟩
  refine ⟨h1,fun x hx=>?_⟩
  obtain ⟨h,hl,rfl⟩:=List.mem_iff_getElem.1 hx
  rw [List.length_zip] at hl
  rw [List.getElem_zip]
  exact h2 h (by omega) (by omega)
theorem zIz {l:List Prt} {h:Hl} {b:Bnd} (hb:okB l h b=true):b.1=h.1∧(0≤b.2.1∧b.2.1≤b.2.2∧b.2.2≤l.length)∧0≤xE (piece l b.2.1.toNat b.2.2.toNat)∧(isSev h.2=false→xE (piece l b.2.1.toNat b.2.2.toNat)=1∧mayB h.2 (zX l b.2.1.toNat)=true):=by
 unfold okB at hb
 simp only [Bool.and_eq_true,decide_eq_true_eq,Bool.or_eq_true] at hb
 refine ⟨hb.1,hb.2.1,hb.2.2.1,fun hs=>?_⟩
 rcases hb.2.2.2 with h1 | h1
 ·rw [hs] at h1;cases h1
 ·exact h1
theorem jK {r:RuleM} {l:List Prt} {bs:List Bnd} (h:rightB r l bs=true):BindsIn bs l:=by
 obtain ⟨h1,h2⟩:=vD.1 h
 intro x hx
 obtain ⟨k,hk,rfl⟩:=List.mem_iff_getElem.1 hx
 exact (zIz (h2 k (by omega) hk)).2.1
def madeP (r:RuleM) (l:List Prt) (bs:List Bnd):List PN:=mPart r.by' l r.holes (bOf bs) (fuelZ r.by') 0
def outP (r:RuleM) (l:List Prt) (bs:List Bnd):List PN:=if r.goal=3 then (madeP r l bs).drop 1 else madeP r l bs
def kE (r:RuleM) (l:List Prt) (bs:List Bnd):Int:=xE ((outP r l bs).map (·.1))
abbrev Pk:=Int×Int×List Bnd
def yG (rules:List RuleM) (l:List Prt):List Pk→Int→Int→Int
 | [],_,size=>if 131072<size then 2 else 0
 | (n,x,bs)::P,free,size =>
  if n<0∨rules.length≤n∨x<free∨l.length≤x then 1 else match rules[n.toNat]? with
  | none=>1
  | some r=>if rightB r l bs=false then 1 else if 131072<(outP r l bs).length then 2
   else if kE r l bs≠1∧(x=0∨kindU l (upN l x.toNat)≠13) then 12
   else yG rules l P (zA l x.toNat) (size+(outP r l bs).length-((zA l x.toNat:Int)-x))
def mkOf (rules:List RuleM) (l:List Prt) (p:Pk):Mk:=match rules[p.1.toNat]? with
 | some r=>(p.2.1.toNat,outP r l p.2.2,kE r l p.2.2-1)
 | none=>(p.2.1.toNat,[],0)
def kD (rules:List RuleM) (l:List Prt) (P:List Pk):List Mk:=P.map (mkOf rules l)
def stepOut (rules:List RuleM) (l:List Prt) (P:List Pk):List PN:=outGo l (kD rules l P) (l.length+1) 0 (kD rules l P)
def withZ (o:List PN):List PN×Int:=if zZ (o.map (·.1))=true then (guardZ (o.map (·.1)) (o.map (·.2)),0) else ([],8)
def stepZ (rules:List RuleM) (l:List Prt) (P:List Pk):List PN×Int :=
 if yB rules l≠0 then ([],yB rules l) else if yG rules l P 0 l.length≠0 then ([],yG rules l P 0 l.length) else withZ (stepOut rules l P)
theorem gW {rules:List RuleM} {l:List Prt} {n x:Int} {bs:List Bnd} {P:List Pk} {free size:Int} (h:yG rules l ((n,x,bs)::P) free size=0) :
  0≤n∧free≤x∧x<l.length∧∃ r,rules[n.toNat]?=some r∧rightB r l bs=true∧(outP r l bs).length≤131072∧¬ (kE r l bs≠1∧(x=0∨kindU l (upN l x.toNat)≠13))∧yG rules l P (zA l x.toNat) (size+(outP r l bs).length-((zA l x.toNat:Int)-x))=0:=by
 rw [yG] at h
 split at h
 ·cases h
 ·rename_i h1
  cases hr:rules[n.toNat]? with
  | none=>rw [hr] at h;cases h
  | some r =>
   rw [hr] at h
   simp only [] at h
   split at h
   ·cases h
   ·rename_i h2
    split at h
    ·cases h
    ·rename_i h3
     split at h
     ·cases h
     ·rename_i h4
      exact ⟨by omega,by omega,by omega,r,rfl,by simpa using h2,by omega,h4,h⟩
theorem zBh {rules:List RuleM} {l:List Prt} {n x:Int} {bs:List Bnd} {r:RuleM} (h:rules[n.toNat]?=some r):mkOf rules l (n,x,bs)=(x.toNat,outP r l bs,kE r l bs-1):=by
 unfold mkOf
 simp only []
 rw [h]
theorem fX {rules:List RuleM} {l:List Prt}:∀ {P:List Pk} {free:Nat} {size:Int},yG rules l P free size=0→Free l free (kD rules l P)
 | [],_,_,_=>trivial
 | (n,x,bs)::P,free,size,h=>by
  obtain ⟨h1,h2,h3,r,hr,_,_,_,h4⟩:=gW h
  unfold kD
  rw [List.map_cons,zBh hr]
  exact ⟨by omega,by omega,fX h4⟩
section
variable {t l:List Prt} {hs:List Hl} {b:Nat→Nat×Nat}
end
section
variable (l:List Prt) (all:List Mk)
theorem fY {us:List Nat} (hl:zF l=some us):∀ (n i:Nat) (P:List Mk),∀ y∈outGo l all n i P,(∃ j,j<l.length∧y=stayN l all j)∨∃ p∈P,y∈p.2.1
 | 0,i,P,y,h=>by rw [outGo] at h;cases h
 | n+1,i,[],y,h=>by
  rw [outGo] at h
  split at h
  ·rename_i hi
   rcases List.mem_cons.1 h with rfl | h
   ·exact Or.inl ⟨i,hi,rfl⟩
   ·rcases fY hl n (i+1) [] y h with g | ⟨p,hp,_⟩
    ·exact Or.inl g
    ·cases hp
  ·cases h
 | n+1,i,(x,m,d)::R,y,h=>by
  rw [outGo] at h
  split at h
  ·rename_i hi
   split at h
   ·rcases List.mem_append.1 h with h | h
    ·exact Or.inr ⟨(x,m,d),by simp,h⟩
    ·rcases fY hl n (zA l i) R y h with g | ⟨p,hp,g⟩
     ·exact Or.inl g
     ·exact Or.inr ⟨p,by simp [hp],g⟩
   ·rcases List.mem_cons.1 h with rfl | h
    ·exact Or.inl ⟨i,hi,rfl⟩
    ·exact fY hl n (i+1) _ y h
  ·cases h
end
end Go.Proofs.YtfalelkfhandfaaGreatDoor
namespace Go.Proofs.YtfalelkfhandfaaGreatDoor
set_option maxRecDepth 100000
set_option maxHeartbeats 32000000
set_option linter.all false
open Go.RowKit

theorem zOy (l:List Prt) (hl:l.length≤1000000000) (us:List Nat) (hus:zF l=some us) (v:Value) (w:World) (hr:zG w v l) :
  Calls Tryz.prog 71 #[v] w (ends2Post l w):=by
 have HQ:Hid (∀ v' w',Below w.heap.size w w'→w'.ownsRow w.heap.size 3 1 v' l.length ((endsL l).map (Value.int .i64))→ends2Post l w (.returned v') w'):=Hd fun v' w' h1 h2=>by
  unfold ends2Post;exact ⟨v',rfl,h1,h2⟩
 generalize ends2Post l w=Q at *
 have HR:=Hd hr
 have HU:=Hd hus
 obtain ⟨va,vcap,rfl,hvc⟩:=hr.slice
 clear hr hus
 have hmk:=vQ l.length hl
 have hwl:IntKind.i64.wrap ((l.length:Int)-1)=(l.length:Int)-1:=wI (by omega)
 go_enter Tryz.func71,Tryz.ntmps71
 go_wp2_with fail
 have HK0:Hid ((w.alloc (.cells (Array.replicate l.length (Value.int .i64 0)) 3)).heap[w.heap.size]?=some (.cells ((List.replicate l.length (0:Int)).map (Value.int .i64)).toArray 3 (0,0))):=Hd (by
  have:=heap_alloc_new w (.cells (Array.replicate l.length (Value.int .i64 0)) 3)
  rw [this,List.map_replicate,List.toArray_replicate])
 have HB0:Hid (Below w.heap.size w (w.alloc (.cells (Array.replicate l.length (Value.int .i64 0)) 3))):=Hd ((Below.refl _ _).alloc (Nat.le_refl _) _)
 generalize w.alloc (.cells (Array.replicate l.length (Value.int .i64 0)) 3)=W0 at *
 generalize hBB:w.heap.size=B at *
 have HBB:=Hd hBB
 clear hBB
 go_loopw [4] (fun j wr=>e2Rel l w j wr) (fun j _=>(intOf j+1).toNat)
 case atStart =>
  refine ⟨l.length,List.replicate l.length 0,rfl,Nat.le_refl _,by simp,fun i h1 h2=>by omega,?_,?_⟩
  ·rw [HBB.out];exact HK0.out
  ·rw [HBB.out];exact HB0.out
 case round =>
  obtain ⟨k,E,rfl,hk,hEl,hEq,hh,hb⟩:=hrel
  rw [HBB.out] at hh hb
  have HB:=Hd hb
  have HH:=Hd hh
  have HEQ:=Hd hEq
  have HEL:=Hd hEl
  have hBlt:B<wr.heap.size:=lt_of_block hh
  clear hb hh hEq hEl
  by_cases hk0:0<k
  ·obtain ⟨i,rfl⟩:∃ i,k=i+1:=⟨k-1,by omega⟩
   rw [show (((i+1:Nat):Int)-1)=(i:Int) by omega]
   have hil:i<l.length:=hk
   obtain ⟨b,off,rfl,_,_,hbl,hcell⟩:=HR.out.at (HBB.out ▸ HB.out) (show 0<l.length by omega)
   obtain ⟨q,hq1,hq2,hq4,hq3⟩:=zBe HU.out hil
   have c0:wr.cell? ⟨b,off+i*3+1,none⟩=some (.int .i64 (q:Int)):=by rw [(hcell i hil).2.1,hq1]
   have HKI:=Hd hq3
   have HKE:=Hd hq2
   have hi0:(0:Int)≤i:=by omega
   have hil':(i:Int)<l.length:=by omega
   have hic:(i:Int)<vcap:=by omega
   have hwi:IntKind.i64.wrap ((i:Int)+1)=(i:Int)+1:=wI (by omega)
   have hwm:IntKind.i64.wrap ((i:Int)-1)=(i:Int)-1:=wI (by omega)
   have c1:wr.cell? ⟨B,i,none⟩=some (.int .i64 (E.getD i 0)):=by
    simp [World.cell?,HH.out,HEL.out,hil,List.getD_eq_getElem?_getD]
   have z1:wr.frozen? ⟨B,i,none⟩=false:=by simp [World.frozen?,HH.out]
   have hbB:b≠B:=by have:=HBB.out;omega
   have c0':(wr.setCell ⟨B,i,none⟩ (.int .i64 ((i:Int)+1))).cell? ⟨b,off+i*3+1,none⟩=some (.int .i64 (q:Int)):=by
    rw [xC (by exact hbB)];exact c0
   have HAT:Hid (e2In l w E i q (.int .i64 0) (wr.setCell ⟨B,i,none⟩ (.int .i64 ((i:Int)+1)))):=Hd ⟨0,rfl,Nat.zero_le _,by
    rw [HBB.out,heap_setCell_same _ _ _ _ _ _ HH.out,List.setIfInBounds_toArray,← List.map_set];rfl,by
    rw [HBB.out];exact HB.out.setCell (p:=⟨B,i,none⟩) (Nat.le_refl _) _⟩
   clear hcell hq1 hq2 hq3 hk0 c0 hbB
   go_wp2_with fail
   clear c1 z1 c0'
   go_loopw [25] (fun cv wx=>e2In l w E i q cv wx) (fun cv _=>q-(intOf cv).toNat)
   case atStart=>exact HAT.out
   case round =>
    obtain ⟨c,rfl,hcq,hh2,hb2⟩:=hrel
    rw [HBB.out] at hh2 hb2
    have HH2:=Hd hh2
    have HB2:=Hd hb2
    clear hh2 hb2 HAT
    by_cases hlt:c<q
    ·obtain ⟨x1,x2⟩:=HKI.out c hlt
     have HXS:=Hd (xR l c (i+1))
     generalize zO l c (i+1)=x at *
     have d1:wr.cell? ⟨B,i,none⟩=some (.int .i64 (x:Int)):=by
      simp [World.cell?,HH2.out,HEL.out,hil]
     have d2:wr.cell? ⟨B,x,none⟩=some (.int .i64 (zA l x:Int)):=by
      have:=HEQ.out x (by omega) x2
      rw [List.getD_eq_getElem?_getD] at this
      simp only [World.cell?,HH2.out]
      rw [← this]
      simp [HEL.out,x2,show ¬ i=x by omega]
     have d3:wr.frozen? ⟨B,i,none⟩=false:=by simp [World.frozen?,HH2.out]
     have HN1:Hid ((wr.setCell ⟨B,i,none⟩ (.int .i64 (zA l x:Int))).heap[w.heap.size]?=some (.cells ((E.set i (zO l (c+1) (i+1):Int)).map (Value.int .i64)).toArray 3 (0,0))):=Hd (by
      rw [HBB.out,HXS.out,heap_setCell_same _ _ _ _ _ _ HH2.out,List.setIfInBounds_toArray,← List.map_set,List.set_set])
     have HN2:Hid (Below w.heap.size w (wr.setCell ⟨B,i,none⟩ (.int .i64 (zA l x:Int)))):=Hd (by
      rw [HBB.out];exact HB2.out.setCell (p:=⟨B,i,none⟩) (Nat.le_refl _) _)
     have hx0:(0:Int)≤(x:Int):=by omega
     have hxl:(x:Int)<l.length:=by omega
     have hci:(c:Int)<q:=by omega
     have hwc:IntKind.i64.wrap ((c:Int)+1)=(c:Int)+1:=wI (by omega)
     generalize zA l x=y at *
     clear HXS
     go_wp2_with fail
     refine ⟨⟨c+1,by go_num,by omega,HN1.out,HN2.out⟩,by simp [intOf];omega⟩
    ·obtain rfl:c=q:=by omega
     have hci:¬ (c:Int)<(c:Int):=by omega
     have HN:Hid (e2Rel l w (.int .i64 ((i:Int)-1)) wr):=Hd ⟨i,E.set i (zA l i:Int),rfl,by omega,by rw [List.length_set];exact HEL.out,fun j h1 h2=>by
      rw [List.getD_eq_getElem?_getD,List.getElem?_set]
      by_cases e:i=j
      ·subst e;(rw [if_pos rfl,if_pos (by rw [HEL.out];exact hil)];try rfl)
      ·rw [if_neg e,← List.getD_eq_getElem?_getD];exact HEQ.out j (by omega) h2,by rw [HBB.out,← HKE.out];exact HH2.out,by rw [HBB.out];exact HB2.out⟩
     go_wp2_with fail
     refine ⟨HN.out,by simp [intOf];try omega⟩
  ·obtain rfl:k=0:=by omega
   rw [show (((0:Nat):Int)-1)=-1 by rfl]
   have hEE:E=endsL l:=by
    apply List.ext_getElem (by rw [HEL.out,zN])
    intro j h1 h2
    have h3:=HEQ.out j (by omega) (by have:=HEL.out;omega)
    have h4:=xJ (l:=l) (j:=j) (by have:=HEL.out;omega)
    rw [List.getD_eq_getElem?_getD,List.getElem?_eq_getElem h1] at h3
    rw [List.getElem?_eq_getElem h2] at h4
    simp only [Option.getD_some] at h3
    rw [h3];exact (Option.some.inj h4).symm
   subst hEE
   have HX:=Hd (HQ.out (.slice (some ⟨B,0,none⟩) l.length l.length) wr HB.out (jS HH.out (Nat.le_refl _) (zN l) hl))
   go_wp2_with fail
   exact HX.out
end Go.Proofs.YtfalelkfhandfaaGreatDoor
