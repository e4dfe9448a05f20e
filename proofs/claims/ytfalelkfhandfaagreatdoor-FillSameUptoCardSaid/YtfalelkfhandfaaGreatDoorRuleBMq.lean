/- Layer 16: the program's stands, walked. -/
import Derived.Test.YtfalelkfhandfaaGreatDoorRuleAMq
import Derived.Test.YtfalelkfhandfaaGreatDoorFindQMq
import Derived.Test.YtfalelkfhandfaaGreatDoorPackMq
import Derived.Test.YtfalelkfhandfaaGreatDoorFindPMq
import Derived.Test.YtfalelkfhandfaaGreatDoorTermQMq
namespace Go.Proofs.YtfalelkfhandfaaGreatDoor
set_option maxRecDepth 100000
set_option maxHeartbeats 32000000
set_option linter.all false
attribute [local irreducible] Calls
open Go.RowKit

def upsL (l:List Prt):List Int:=(List.range l.length).map (upN l)
theorem kO (l:List Prt):(upsL l).length=l.length:=by simp [upsL]
theorem zFf {l:List Prt} {j:Nat} (hj:j<(upsL l).length):(upsL l)[j]=upN l j:=by simp [upsL]
theorem zDh (l:List Prt) (u:Int) (n:Nat) (hn:n≠69):(kindI l u == some n)=(kindU l u == (n:Int)):=by
 unfold kindU
 cases kindI l u with
 | none=>simp;omega
 | some k=>rw [Bool.eq_iff_iff];simp;omega
theorem zLd (l:List Prt) (hl:l.length≤1000000000) (v vup:Value) (w:World) (hr:zG w v l) (hup:zK w vup .i64 (upsL l)) (i:Nat) (hi:i<l.length) (k:Nat) :
  Calls Tryz.prog 85 #[v,vup,.int .i64 (i:Int),.int .u8 (k:Int)] w fun e w'=>e=.returned (.bool (xZ l k i))∧w=w':=by
 have HQ:Hid (∀ x,xZ l k i=x→(fun (e:Ending) w'=>e=.returned (.bool (xZ l k i))∧w=w') (.returned (.bool x)) w):=Hd fun x h=>⟨by rw [h],rfl⟩
 generalize (fun (e:Ending) w'=>e=.returned (.bool (xZ l k i))∧w=w')=Q at *
 have hge:=zTs l i
 have hlt:=zBd l i
 have CK:=Hd (fun u h1 h2=>zQp l hl v u h1 h2 w hr)
 obtain ⟨ua,ucap,hv,hc,hrow⟩:=hup.open'
 obtain ⟨b,off,rfl,_,hcell⟩:=hrow (by rw [kO];omega)
 subst hv
 have c0:w.cell? ⟨b,off+i,none⟩=some (.int .i64 (upN l i)):=by rw [hcell i (by rw [kO];exact hi),zFf]
 rw [kO] at hc ⊢
 have HC:=Hd hcell
 have hi0:(0:Int)≤(i:Int):=by omega
 have hil:(i:Int)<l.length:=by omega
 clear hrow hup hr hcell
 have HP:Hid (xZ l k i=if k=5 then kindU l (upN l i) == 50 else if k=7 then (kindU l (upN l i) == 50&&kindU l (upN l (upN l i).toNat) == 13) else if k=6 then (kindU l (upN l i) == 11 || kindU l (upN l i) == 12) else true):=Hd (by
  unfold xZ
  rw [zDh _ _ 50 (by omega),zDh _ _ 13 (by omega),zDh _ _ 11 (by omega),zDh _ _ 12 (by omega)];rfl)
 have C1:=Hd (CK.out (upN l i) hge (by omega))
 by_cases k5:k=5
 ·subst k5
  have HX:=Hd (HQ.out _ HP.out)
  rw [if_pos rfl] at HX
  generalize upN l i=u at *
  generalize kindU l u=x at *
  go_enter Tryz.func85,Tryz.ntmps85
  go_wp2_with fail
  refine C1.out.mono ?_
  rintro e w2 ⟨rfl,rfl⟩
  go_wp2_with fail
  exact HX.out
 have hn5:((k:Int) == 5)=false:=by rw [beq_eq_false_iff_ne];omega
 have hm5:(k == 5)=false:=by rw [beq_eq_false_iff_ne];exact k5
 by_cases k7:k=7
 ·subst k7
  have HX:=Hd (HQ.out _ HP.out)
  rw [if_neg (by omega),if_pos rfl] at HX
  by_cases hx:kindU l (upN l i)=50
  ·have hu0:0≤upN l i:=by
    by_cases c:upN l i<0
    ·unfold kindU kindI at hx
     rw [if_pos c] at hx
     cases hx
    ·omega
   obtain ⟨j,hj⟩:∃ j:Nat,upN l i=(j:Int):=⟨(upN l i).toNat,by omega⟩
   have hjl:j<l.length:=by omega
   have c1:w.cell? ⟨b,off+j,none⟩=some (.int .i64 (upN l j)):=by rw [HC.out j (by rw [kO];exact hjl),zFf]
   have C2:=Hd (CK.out (upN l j) (zTs l j) (by have:=zBd l j;omega))
   rw [hx,hj,Int.toNat_natCast] at HX
   rw [hx] at C1
   rw [hj] at C1 c0
   have hj0:(0:Int)≤(j:Int):=by omega
   have hjli:(j:Int)<l.length:=by omega
   clear hx hj hge hlt hu0 HP HQ
   generalize upN l j=u at *
   generalize kindU l u=y at *
   go_enter Tryz.func85,Tryz.ntmps85
   go_wp2_with fail
   refine C1.out.mono ?_
   rintro e w2 ⟨rfl,rfl⟩
   go_wp2_with fail
   refine C2.out.mono ?_
   rintro e w2 ⟨rfl,rfl⟩
   go_wp2_with fail
   exact HX.out
  ·have hxb:(kindU l (upN l i) == 50)=false:=by rw [beq_eq_false_iff_ne];exact hx
   rw [hxb,Bool.false_and] at HX
   clear hx HP HQ
   generalize upN l i=u at *
   generalize kindU l u=x at *
   go_enter Tryz.func85,Tryz.ntmps85
   go_wp2_with fail
   refine C1.out.mono ?_
   rintro e w2 ⟨rfl,rfl⟩
   go_wp2_with fail
   exact HX.out
 have hn7:((k:Int) == 7)=false:=by rw [beq_eq_false_iff_ne];omega
 have hm7:(k == 7)=false:=by rw [beq_eq_false_iff_ne];exact k7
 by_cases k6:k=6
 ·subst k6
  have HX:=Hd (HQ.out _ HP.out)
  rw [if_neg (by omega),if_neg (by omega),if_pos rfl] at HX
  clear HP HQ
  generalize upN l i=u at *
  generalize kindU l u=x at *
  cases hx:x == 11 with
  | true =>
   rw [hx,Bool.true_or] at HX
   go_enter Tryz.func85,Tryz.ntmps85
   go_wp2_with fail
   refine C1.out.mono ?_
   rintro e w2 ⟨rfl,rfl⟩
   go_wp2_with fail
   exact HX.out
  | false =>
   rw [hx,Bool.false_or] at HX
   go_enter Tryz.func85,Tryz.ntmps85
   go_wp2_with fail
   refine C1.out.mono ?_
   rintro e w2 ⟨rfl,rfl⟩
   go_wp2_with fail
   refine C1.out.mono ?_
   rintro e w2 ⟨rfl,rfl⟩
   go_wp2_with fail
   exact HX.out
 ·have hn6:((k:Int) == 6)=false:=by rw [beq_eq_false_iff_ne];omega
  have HX:=Hd (HQ.out _ HP.out)
  rw [if_neg k5,if_neg k7,if_neg k6] at HX
  clear HP HQ
  go_enter Tryz.func85,Tryz.ntmps85
  go_wp2_with fail
  exact HX.out
end Go.Proofs.YtfalelkfhandfaaGreatDoor
namespace Go.Proofs.YtfalelkfhandfaaGreatDoor
set_option maxRecDepth 100000
set_option maxHeartbeats 32000000
set_option linter.all false
attribute [local irreducible] Calls
open Go.RowKit

theorem fM {x y:ByteArray} (h:x≠y):x.toList≠y.toList:=fun e=>h (by
 rw [ByteArray.toList_eq,ByteArray.toList_eq] at e
 exact ByteArray.ext (Array.ext' e))
def UpsC (l:List Prt):Prop:=∀ (v:Value) (w:World),zG w v l→Calls Tryz.prog 84 #[v] w fun e w'=>∃ v',e=.returned v'∧Below w.heap.size w w'∧zK w' v' .i64 (upsL l)
@[irreducible] def xL (z:Int) (w0:World) (e:Ending) (w':World):Prop :=
 Below w0.heap.size w0 w'∧e=if 0≤z then .returned (.tuple #[.int .i64 z,.bool true]) else .returned (.tuple #[.int .i64 0,.bool false])
def plRel (l:List Prt) (h:Hl) (w0:World) (nv iv:Value) (wr:World):Prop :=
 ∃ k n:Nat,iv=.int .i64 (k:Int)∧nv=.int .i64 (n:Int)∧k≤l.length∧n≤k∧vZ l h (l.length-k) k (n:Int)=yV l h∧Below w0.heap.size w0 wr
theorem gA (l:List Prt) (hl:l.length≤1000000000) (hf:∀ p∈l,p.1<256) (CU:UpsC l) (v:Value) (h:Hl) (w:World) (hr:zG w v l) :
  Calls Tryz.prog 62 #[v,.agg #[.string h.1,.int .u8 (h.2:Int)]] w (xL (yV l h) w):=by
 have HQ:Hid (∀ w',Below w.heap.size w w'→0≤yV l h→xL (yV l h) w (.returned (.tuple #[.int .i64 (yV l h),.bool true])) w'):=Hd fun w' hb hz=>by
  unfold xL;rw [if_pos hz];exact ⟨hb,rfl⟩
 have HN:Hid (∀ w',Below w.heap.size w w'→yV l h=-1→xL (yV l h) w (.returned (.tuple #[.int .i64 0,.bool false])) w'):=Hd fun w' hb hz=>by
  unfold xL;rw [if_neg (by omega)];exact ⟨hb,rfl⟩
 generalize xL (yV l h) w=Q at *
 have hbx:Below w.heap.size w (w.alloc (.cells #[.string h.1,.int .u8 (h.2:Int)] 49)):=(Below.refl _ _).alloc (Nat.le_refl _) _
 have HBX:=Hd hbx
 have CU:=Hd (CU v _ (hr.below hbx))
 have e0:(w.alloc (.cells #[.string h.1,.int .u8 (h.2:Int)] 49)).cell? ⟨w.heap.size,0,none⟩=some (.string h.1):=World.cell?_alloc_at _ _ _ _ rfl
 have e1:(w.alloc (.cells #[.string h.1,.int .u8 (h.2:Int)] 49)).cell? ⟨w.heap.size,1,none⟩=some (.int .u8 (h.2:Int)):=World.cell?_alloc_at _ _ _ _ rfl
 have hz0:w.heap.size<(w.alloc (.cells #[.string h.1,.int .u8 (h.2:Int)] 49)).heap.size:=by simp
 have HR:=Hd hr
 obtain ⟨va,vcap,rfl,hvc⟩:=hr.slice
 clear hr hbx
 go_enter Tryz.func62,Tryz.ntmps62
 go_wp2_with fail
 refine CU.out.mono ?_
 rintro e w1 ⟨vu,rfl,hb1,hup⟩
 have HB1:=Hd (zB HBX.out hb1)
 have HU:=Hd hup
 have HE0:=Hd (show w1.cell? ⟨w.heap.size,0,none⟩=some (.string h.1) by rw [hb1.cell (p:=⟨w.heap.size,0,none⟩) hz0];exact e0)
 have HE1:=Hd (show w1.cell? ⟨w.heap.size,1,none⟩=some (.int .u8 (h.2:Int)) by rw [hb1.cell (p:=⟨w.heap.size,1,none⟩) hz0];exact e1)
 have HZ1:=Hd (show w.heap.size<w1.heap.size from Nat.lt_of_lt_of_le hz0 hb1.size)
 obtain ⟨ua,ucap,hvu,_,_⟩:=hup.open'
 subst hvu
 clear hb1 hup e0 e1 hz0 CU HBX
 go_wp2_with fail
 go_loopw [6,14] (fun nv iv wr=>plRel l h w1 nv iv wr) (fun _ iv _=>l.length-(intOf iv).toNat)
 case atStart=>exact ⟨0,0,rfl,rfl,Nat.zero_le _,Nat.le_refl _,rfl,Below.refl _ _⟩
 case round =>
  obtain ⟨k,n,rfl,rfl,hk,hnk,hpf,hb⟩:=hrel
  have HB:=Hd hb
  have HPF:=Hd hpf
  clear hb hpf
  by_cases hlt:k<l.length
  ·obtain ⟨b,off,rfl,_,_,hbl,hcell⟩:=HR.out.at (zB HB1.out HB.out) (show 0<l.length by omega)
   obtain ⟨d0,d1,d2⟩:=hcell k hlt
   have hs:=HPF.out
   rw [show l.length-k=(l.length-(k+1))+1 by omega,vZ,List.getElem?_eq_getElem hlt] at hs
   generalize hp:l[k]=p at *
   obtain ⟨a,c,s⟩:=p
   simp only [] at d0 d1 d2 hs
   have hbp:Below w1.heap.size w1 (wr.alloc (.cells #[.int .u8 (a:Int),.int .i64 c,.string s] 38)):=HB.out.alloc HB.out.size _
   have g0:(wr.alloc (.cells #[.int .u8 (a:Int),.int .i64 c,.string s] 38)).cell? ⟨w.heap.size,0,none⟩=some (.string h.1):=by
    rw [hbp.cell (p:=⟨w.heap.size,0,none⟩) HZ1.out];exact HE0.out
   have g1:(wr.alloc (.cells #[.int .u8 (a:Int),.int .i64 c,.string s] 38)).cell? ⟨w.heap.size,1,none⟩=some (.int .u8 (h.2:Int)):=by
    rw [hbp.cell (p:=⟨w.heap.size,1,none⟩) HZ1.out];exact HE1.out
   have hrp:=HR.out.below (zB HB1.out hbp)
   have CS:=Hd (zLd l hl _ _ _ hrp (HU.out.below hbp) k hlt h.2)
   have HBP:=Hd hbp
   have HS:=Hd hs
   clear hbp hrp hs hcell
   by_cases ha:a=26
   ·subst ha
    rw [show ((26:Nat):Int)=26 from rfl] at d0 g0 g1 CS HBP
    by_cases hw:s=h.1
    ·subst hw
     by_cases ho:xZ l h.2 k=true
     ·have HX:Hid (vZ l h (l.length-(k+1)) (k+1) ((n:Int)+1)=yV l h):=Hd (by
       have:=HS.out;unfold vG at this;simpa [ho] using this)
      rw [ho] at CS
      go_wp2_with fail
      refine CS.out.mono ?_
      rintro e w2 ⟨rfl,rfl⟩
      go_wp2_with fail
      case roundEnd=>exact ⟨⟨k+1,n+1,by push_cast;rfl,by push_cast;rfl,by omega,by omega,by have:=HX.out;push_cast;exact this,HBP.out⟩,by simp only [intOf];omega⟩
     ·have ho:xZ l h.2 k=false:=by simpa using ho
      have HX:Hid (yV l h=-1):=Hd (by
       have:=HS.out;unfold vG at this;simpa [ho] using this.symm)
      rw [ho] at CS
      go_wp2_with fail
      refine CS.out.mono ?_
      rintro e w2 ⟨rfl,rfl⟩
      go_wp2_with fail
      exact HN.out _ (zB HB1.out HBP.out) HX.out
    ·have HX:Hid (vZ l h (l.length-(k+1)) (k+1) (n:Int)=yV l h):=Hd (by
      have:=HS.out;unfold vG at this;simpa [hw] using this)
     have g2:(s.toList == h.1.toList)=false:=by rw [beq_eq_false_iff_ne];exact fM hw
     go_wp2_with fail
     case roundEnd=>exact ⟨⟨k+1,n,by push_cast;rfl,rfl,by omega,by omega,HX.out,HBP.out⟩,by simp only [intOf];omega⟩
   ·have HX:Hid (vZ l h (l.length-(k+1)) (k+1) (n:Int)=yV l h):=Hd (by
     have:=HS.out;unfold vG at this;simpa [ha] using this)
    have g2:((a:Int) == 26)=false:=by rw [beq_eq_false_iff_ne];omega
    go_wp2_with fail
    case roundEnd=>exact ⟨⟨k+1,n,by push_cast;rfl,rfl,by omega,by omega,HX.out,HBP.out⟩,by simp only [intOf];omega⟩
  ·have hkl:k=l.length:=by omega
   subst hkl
   have hz:=HPF.out
   rw [Nat.sub_self,vZ] at hz
   have HX:=Hd (HQ.out wr (zB HB1.out HB.out) (by omega))
   rw [← hz] at HX
   go_wp2_with fail
   exact HX.out
end Go.Proofs.YtfalelkfhandfaaGreatDoor
namespace Go.Proofs.YtfalelkfhandfaaGreatDoor
set_option linter.all false

theorem zUl {l:List Prt} {b:Nat}:∀ {n a:Nat},(∀ k,k<n→zO l k a<b)→advT l n a b=some (zO l n a)
 | 0,a,_=>by rw [advT];rfl
 | n+1,a,h=>by
  have h0:a<b:=h 0 (by omega)
  rw [advT,if_pos h0,zO]
  exact zUl fun k hk=>h (k+1) (by omega)
theorem zUm {l:List Prt} {us:List Nat} (hl:zF l=some us) {a b n:Nat} (hab:a≤b) (hb:b≤l.length) (hlt:∀ k,k<n→zO l k a<b) (hge:b≤zO l n a) :
  (zO l n a=b→xE (piece l a b)=(n:Int))∧(zO l n a≠b→xE (piece l a b)=-1):=by
 have hn:=zUl hlt
 constructor
 ·intro e
  rw [e] at hn
  obtain ⟨ts,h1,h2⟩:=fH hl n a b hb hn
  rw [jP h1,h2]
 ·intro e
  unfold xE
  cases h:zF (piece l a b) with
  | none=>rfl
  | some ts =>
   exfalso
   have hpl:=zBt hab hb
   have h1:=zOk hl hb ts (piece l a b) (l.drop b) a h (zEg hab) (by omega)
   rw [hpl,show a+(b-a)=b by omega] at h1
   rcases Nat.lt_trichotomy ts.length n with c | c | c
   ·have:=hlt _ c
    rw [gT h1] at this
    omega
   ·rw [c] at h1
    exact e (gT h1)
   ·rw [show ts.length=n+((ts.length-n-1)+1) by omega,kS,hn,Option.bind_some,advT,if_neg (by omega)] at h1
    cases h1
theorem zUn {l:List Prt} {us:List Nat} (hl:zF l=some us) {a n:Nat} (h:zO l n a<l.length):zO l n a<zO l (n+1) a∧zO l (n+1) a≤l.length:=by
 rw [xR]
 exact zJ hl h
end Go.Proofs.YtfalelkfhandfaaGreatDoor
namespace Go.Proofs.YtfalelkfhandfaaGreatDoor
set_option maxRecDepth 100000
set_option maxHeartbeats 32000000
set_option linter.all false
attribute [local irreducible] Calls
open Go.RowKit

theorem zGk (l:List Prt) (hl:l.length≤1000000000) (us:List Nat) (hus:zF l=some us) (v:Value) (w:World) (hr:zG w v l) :
  Calls Tryz.prog 18 #[v] w (ends2Post l w):=by
 have HQ:Hid (∀ v' w',Below w.heap.size w w'→w'.ownsRow w.heap.size 3 1 v' l.length ((endsL l).map (Value.int .i64))→ends2Post l w (.returned v') w'):=Hd fun v' w' h1 h2=>by
  unfold ends2Post;exact ⟨v',rfl,h1,h2⟩
 generalize ends2Post l w=Q at *
 have HR:=Hd hr
 have HU:=Hd hus
 obtain ⟨va,vcap,rfl,hvc⟩:=hr.slice
 clear hr hus
 have hmk:=vQ l.length hl
 have hwl:IntKind.i64.wrap ((l.length:Int)-1)=(l.length:Int)-1:=wI (by omega)
 go_enter Tryz.func18,Tryz.ntmps18
 go_wp2_with fail
 have HK0:Hid ((w.alloc (.cells (Array.replicate l.length (Value.int .i64 0)) 3)).heap[w.heap.size]?=some (.cells ((List.replicate l.length (0:Int)).map (Value.int .i64)).toArray 3 (0,0))):=Hd (by
  have:=heap_alloc_new w (.cells (Array.replicate l.length (Value.int .i64 0)) 3)
  rw [this,List.map_replicate,List.toArray_replicate])
 have HB0:Hid (Below w.heap.size w (w.alloc (.cells (Array.replicate l.length (Value.int .i64 0)) 3))):=Hd ((Below.refl _ _).alloc (Nat.le_refl _) _)
 generalize w.alloc (.cells (Array.replicate l.length (Value.int .i64 0)) 3)=W0 at *
 generalize hBB:w.heap.size=B at *
 have HBB:=Hd hBB
 clear hBB
 go_loopw [4] (fun j wr=>e2Rel l w j wr) (fun j _=>(intOf j+1).toNat)
 case atStart =>
  refine ⟨l.length,List.replicate l.length 0,rfl,Nat.le_refl _,by simp,fun i h1 h2=>by omega,?_,?_⟩
  ·rw [HBB.out];exact HK0.out
  ·rw [HBB.out];exact HB0.out
 case round =>
  obtain ⟨k,E,rfl,hk,hEl,hEq,hh,hb⟩:=hrel
  rw [HBB.out] at hh hb
  have HB:=Hd hb
  have HH:=Hd hh
  have HEQ:=Hd hEq
  have HEL:=Hd hEl
  have hBlt:B<wr.heap.size:=lt_of_block hh
  clear hb hh hEq hEl
  by_cases hk0:0<k
  ·obtain ⟨i,rfl⟩:∃ i,k=i+1:=⟨k-1,by omega⟩
   rw [show (((i+1:Nat):Int)-1)=(i:Int) by omega]
   have hil:i<l.length:=hk
   obtain ⟨b,off,rfl,_,_,hbl,hcell⟩:=HR.out.at (HBB.out ▸ HB.out) (show 0<l.length by omega)
   obtain ⟨q,hq1,hq2,hq4,hq3⟩:=zBe HU.out hil
   have c0:wr.cell? ⟨b,off+i*3+1,none⟩=some (.int .i64 (q:Int)):=by rw [(hcell i hil).2.1,hq1]
   have HKI:=Hd hq3
   have HKE:=Hd hq2
   have hi0:(0:Int)≤i:=by omega
   have hil':(i:Int)<l.length:=by omega
   have hic:(i:Int)<vcap:=by omega
   have hwi:IntKind.i64.wrap ((i:Int)+1)=(i:Int)+1:=wI (by omega)
   have hwm:IntKind.i64.wrap ((i:Int)-1)=(i:Int)-1:=wI (by omega)
   have c1:wr.cell? ⟨B,i,none⟩=some (.int .i64 (E.getD i 0)):=by
    simp [World.cell?,HH.out,HEL.out,hil,List.getD_eq_getElem?_getD]
   have z1:wr.frozen? ⟨B,i,none⟩=false:=by simp [World.frozen?,HH.out]
   have hbB:b≠B:=by have:=HBB.out;omega
   have c0':(wr.setCell ⟨B,i,none⟩ (.int .i64 ((i:Int)+1))).cell? ⟨b,off+i*3+1,none⟩=some (.int .i64 (q:Int)):=by
    rw [xC (by exact hbB)];exact c0
   have HAT:Hid (e2In l w E i q (.int .i64 0) (wr.setCell ⟨B,i,none⟩ (.int .i64 ((i:Int)+1)))):=Hd ⟨0,rfl,Nat.zero_le _,by
    rw [HBB.out,heap_setCell_same _ _ _ _ _ _ HH.out,List.setIfInBounds_toArray,← List.map_set];rfl,by
    rw [HBB.out];exact HB.out.setCell (p:=⟨B,i,none⟩) (Nat.le_refl _) _⟩
   clear hcell hq1 hq2 hq3 hk0 c0 hbB
   go_wp2_with fail
   clear c1 z1 c0'
   go_loopw [25] (fun cv wx=>e2In l w E i q cv wx) (fun cv _=>q-(intOf cv).toNat)
   case atStart=>exact HAT.out
   case round =>
    obtain ⟨c,rfl,hcq,hh2,hb2⟩:=hrel
    rw [HBB.out] at hh2 hb2
    have HH2:=Hd hh2
    have HB2:=Hd hb2
    clear hh2 hb2 HAT
    by_cases hlt:c<q
    ·obtain ⟨x1,x2⟩:=HKI.out c hlt
     have HXS:=Hd (xR l c (i+1))
     generalize zO l c (i+1)=x at *
     have d1:wr.cell? ⟨B,i,none⟩=some (.int .i64 (x:Int)):=by
      simp [World.cell?,HH2.out,HEL.out,hil]
     have d2:wr.cell? ⟨B,x,none⟩=some (.int .i64 (zA l x:Int)):=by
      have:=HEQ.out x (by omega) x2
      rw [List.getD_eq_getElem?_getD] at this
      simp only [World.cell?,HH2.out]
      rw [← this]
      simp [HEL.out,x2,show ¬ i=x by omega]
     have d3:wr.frozen? ⟨B,i,none⟩=false:=by simp [World.frozen?,HH2.out]
     have HN1:Hid ((wr.setCell ⟨B,i,none⟩ (.int .i64 (zA l x:Int))).heap[w.heap.size]?=some (.cells ((E.set i (zO l (c+1) (i+1):Int)).map (Value.int .i64)).toArray 3 (0,0))):=Hd (by
      rw [HBB.out,HXS.out,heap_setCell_same _ _ _ _ _ _ HH2.out,List.setIfInBounds_toArray,← List.map_set,List.set_set])
     have HN2:Hid (Below w.heap.size w (wr.setCell ⟨B,i,none⟩ (.int .i64 (zA l x:Int)))):=Hd (by
      rw [HBB.out];exact HB2.out.setCell (p:=⟨B,i,none⟩) (Nat.le_refl _) _)
     have hx0:(0:Int)≤(x:Int):=by omega
     have hxl:(x:Int)<l.length:=by omega
     have hci:(c:Int)<q:=by omega
     have hwc:IntKind.i64.wrap ((c:Int)+1)=(c:Int)+1:=wI (by omega)
     generalize zA l x=y at *
     clear HXS
     go_wp2_with fail
     refine ⟨⟨c+1,by go_num,by omega,HN1.out,HN2.out⟩,by simp [intOf];omega⟩
    ·obtain rfl:c=q:=by omega
     have hci:¬ (c:Int)<(c:Int):=by omega
     have HN:Hid (e2Rel l w (.int .i64 ((i:Int)-1)) wr):=Hd ⟨i,E.set i (zA l i:Int),rfl,by omega,by rw [List.length_set];exact HEL.out,fun j h1 h2=>by
      rw [List.getD_eq_getElem?_getD,List.getElem?_set]
      by_cases e:i=j
      ·subst e;(rw [if_pos rfl,if_pos (by rw [HEL.out];exact hil)];try rfl)
      ·rw [if_neg e,← List.getD_eq_getElem?_getD];exact HEQ.out j (by omega) h2,by rw [HBB.out,← HKE.out];exact HH2.out,by rw [HBB.out];exact HB2.out⟩
     go_wp2_with fail
     refine ⟨HN.out,by simp [intOf];try omega⟩
  ·obtain rfl:k=0:=by omega
   rw [show (((0:Nat):Int)-1)=-1 by rfl]
   have hEE:E=endsL l:=by
    apply List.ext_getElem (by rw [HEL.out,zN])
    intro j h1 h2
    have h3:=HEQ.out j (by omega) (by have:=HEL.out;omega)
    have h4:=xJ (l:=l) (j:=j) (by have:=HEL.out;omega)
    rw [List.getD_eq_getElem?_getD,List.getElem?_eq_getElem h1] at h3
    rw [List.getElem?_eq_getElem h2] at h4
    simp only [Option.getD_some] at h3
    rw [h3];exact (Option.some.inj h4).symm
   subst hEE
   have HX:=Hd (HQ.out (.slice (some ⟨B,0,none⟩) l.length l.length) wr HB.out (jS HH.out (Nat.le_refl _) (zN l) hl))
   go_wp2_with fail
   exact HX.out
theorem zRu {hole k:Nat} (h1:1≤hole) (h5:hole≤5):mayB hole k=(if hole=1 then decide (26≤k∧k≤48∧k≠38) else if hole=2 then decide (k=26) else if hole=3 then decide (k=27) else if hole=4 then decide (k=26∨(28≤k∧k≤30)∨k=35∨(41≤k∧k≤48)) else decide (49≤k∧k≤68∧k≠62∧k≠64)):=by
 unfold mayB
 by_cases e1:hole=1
 ·rw [if_pos e1,if_pos e1,Bool.eq_iff_iff];simp [and_assoc]
 rw [if_neg e1,if_neg e1]
 by_cases e2:hole=2
 ·rw [if_pos e2,if_pos e2,Bool.eq_iff_iff];simp
 rw [if_neg e2,if_neg e2]
 by_cases e3:hole=3
 ·rw [if_pos e3,if_pos e3,Bool.eq_iff_iff];simp
 rw [if_neg e3,if_neg e3]
 by_cases e4:hole=4
 ·rw [if_pos e4,if_pos e4,Bool.eq_iff_iff];simp [or_assoc]
 rw [if_neg e4,if_neg e4,if_pos (by omega),Bool.eq_iff_iff]
 simp [and_assoc]
theorem zRv (hole k:Nat) (h1:1≤hole) (h5:hole≤5) (hk:k<256) (w:World) :
  Calls Tryz.prog 38 #[.int .u8 (hole:Int),.int .u8 (k:Int)] w fun e w'=>e=.returned (.bool (mayB hole k))∧w=w':=by
 have HQ:Hid (∀ x,mayB hole k=x→(fun (e:Ending) w'=>e=.returned (.bool (mayB hole k))∧w=w') (.returned (.bool x)) w):=Hd fun x h=>⟨by rw [h],rfl⟩
 generalize (fun (e:Ending) w'=>e=.returned (.bool (mayB hole k))∧w=w')=Q at *
 have hh:hole=1∨hole=2∨hole=3∨hole=4∨hole=5:=by omega
 have HV:=Hd (zRu (k:=k) h1 h5)
 clear h1 h5
 rcases hh with rfl | rfl | rfl | rfl | rfl
 all_goals
  go_enter Tryz.func38,Tryz.ntmps38
  go_wp2_with fail
  all_goals
   refine HQ.out _ ?_
   rw [HV.out,Bool.eq_iff_iff]
   first
    | (simp;done)
    | (simp;simp only [beq_iff_eq,beq_eq_false_iff_ne,ne_eq] at *;omega)
    | (simp;omega)
theorem zHx (s:ByteArray) (k:Nat) (w:World) :
  Calls Tryz.prog 37 #[.agg #[.string s,.int .u8 (k:Int)]] w fun e w'=>e=.returned (.bool (isSev k))∧Below w.heap.size w w':=by
 have HX:=Hd ((Below.refl w.heap.size w).alloc (Nat.le_refl _) (.cells #[.string s,.int .u8 (k:Int)] 49))
 have HQ:Hid (∀ x w',isSev k=x→Below w.heap.size w w'→(fun (e:Ending) w'=>e=.returned (.bool (isSev k))∧Below w.heap.size w w') (.returned (.bool x)) w'):=Hd fun x w' h hb=>⟨by rw [h],hb⟩
 generalize (fun (e:Ending) w'=>e=.returned (.bool (isSev k))∧Below w.heap.size w w')=Q at *
 by_cases h6:k=6
 ·subst h6
  have HZ:=Hd (HQ.out true _ rfl HX.out)
  go_enter Tryz.func37,Tryz.ntmps37
  go_wp2_with fail
  exact HZ.out
 by_cases h7:k=7
 ·subst h7
  have HZ:=Hd (HQ.out true _ rfl HX.out)
  go_enter Tryz.func37,Tryz.ntmps37
  go_wp2_with fail
  exact HZ.out
 have g6:((k:Int) == 6)=false:=by rw [beq_eq_false_iff_ne];omega
 have g7:((k:Int) == 7)=false:=by rw [beq_eq_false_iff_ne];omega
 have HZ:=Hd (HQ.out false _ (by unfold isSev;simp [h6,h7]) HX.out)
 clear h6 h7
 go_enter Tryz.func37,Tryz.ntmps37
 go_wp2_with fail
 exact HZ.out
theorem zMk (s:ByteArray) (k:Nat) (w:World) :
  Calls Tryz.prog 63 #[.agg #[.string s,.int .u8 (k:Int)]] w fun e w'=>e=.returned (.bool (xM k))∧Below w.heap.size w w':=by
 have HX:=Hd ((Below.refl w.heap.size w).alloc (Nat.le_refl _) (.cells #[.string s,.int .u8 (k:Int)] 49))
 have HQ:Hid (∀ x w',xM k=x→Below w.heap.size w w'→(fun (e:Ending) w'=>e=.returned (.bool (xM k))∧Below w.heap.size w w') (.returned (.bool x)) w'):=Hd fun x w' h hb=>⟨by rw [h],hb⟩
 generalize (fun (e:Ending) w'=>e=.returned (.bool (xM k))∧Below w.heap.size w w')=Q at *
 by_cases h5:k=5
 ·subst h5
  have HZ:=Hd (HQ.out true _ rfl HX.out)
  go_enter Tryz.func63,Tryz.ntmps63
  go_wp2_with fail
  exact HZ.out
 by_cases h7:k=7
 ·subst h7
  have HZ:=Hd (HQ.out true _ rfl HX.out)
  go_enter Tryz.func63,Tryz.ntmps63
  go_wp2_with fail
  exact HZ.out
 have g5:((k:Int) == 5)=false:=by rw [beq_eq_false_iff_ne];omega
 have g7:((k:Int) == 7)=false:=by rw [beq_eq_false_iff_ne];omega
 have HZ:=Hd (HQ.out false _ (by unfold xM;simp [h5,h7]) HX.out)
 clear h5 h7
 go_enter Tryz.func63,Tryz.ntmps63
 go_wp2_with fail
 exact HZ.out
def ftRel (l:List Prt) (a b:Nat) (w:World) (fv nv:Value) (wr:World):Prop:=∃ n:Nat,nv=.int .i64 (n:Int)∧fv=.int .i64 (zO l n a:Int)∧(∀ k,k<n→zO l k a<b)∧zO l n a≤l.length∧a+n≤zO l n a∧wr=w
theorem zDs (l:List Prt) (hl:l.length≤1000000000) (us:List Nat) (hus:zF l=some us) (v:Value) (a b:Nat) (hab:a≤b) (hb:b≤l.length) (w:World) (hr:zK w v .i64 (endsL l)) :
  Calls Tryz.prog 36 #[v,.int .i64 (a:Int),.int .i64 (b:Int)] w fun e w'=>(∃ (n:Nat) (x:Bool),n≤l.length∧e=.returned (.tuple #[.int .i64 (n:Int),.bool x])∧(x=true→xE (piece l a b)=(n:Int))∧(x=false→xE (piece l a b)=-1))∧w=w':=by
 have HQ:Hid (∀ (n:Nat) (x:Bool),n≤l.length→(x=true→xE (piece l a b)=(n:Int))→(x=false→xE (piece l a b)=-1)→(fun (e:Ending) w'=>(∃ (n:Nat) (x:Bool),n≤l.length∧e=.returned (.tuple #[.int .i64 (n:Int),.bool x])∧(x=true→xE (piece l a b)=(n:Int))∧(x=false→xE (piece l a b)=-1))∧w=w') (.returned (.tuple #[.int .i64 (n:Int),.bool x])) w):=Hd fun n x h0 h1 h2=>⟨⟨n,x,h0,rfl,h1,h2⟩,rfl⟩
 generalize (fun (e:Ending) w'=>(∃ (n:Nat) (x:Bool),n≤l.length∧e=.returned (.tuple #[.int .i64 (n:Int),.bool x])∧(x=true→xE (piece l a b)=(n:Int))∧(x=false→xE (piece l a b)=-1))∧w=w')=Q at *
 have HU:=Hd hus
 obtain ⟨ea,ec,rfl,hec,_⟩:=hr.open'
 have hel:=zN l
 have HR:=Hd hr
 rw [hel]
 rw [hel] at hec
 clear hr hus
 go_enter Tryz.func36,Tryz.ntmps36
 go_wp2_with fail
 go_loopw [1,8] (fun fv nv wr=>ftRel l a b w fv nv wr) (fun fv _ _=>b-(intOf fv).toNat)
 case atStart=>exact ⟨0,rfl,rfl,fun k hk=>absurd hk (Nat.not_lt_zero _),by show a≤_;omega,Nat.le_refl _,rfl⟩
 case round =>
  obtain ⟨n,rfl,rfl,hlt,hle,han,rfl⟩:=hrel
  have HLT:=Hd hlt
  by_cases hfb:zO l n a<b
  ·obtain ⟨eb,eo,rfl,_,_,hcell⟩:=gX HR.out (Below.refl _ _) (by rw [hel];omega)
   have c0:=hcell _ _ (xJ (l:=l) (j:=zO l n a) (by omega))
   have hk:=zUn HU.out (a:=a) (n:=n) (by omega)
   have HX:Hid (ftRel l a b wr (.int .i64 (zO l (n+1) a:Int)) (.int .i64 ((n:Int)+1)) wr):=Hd ⟨n+1,by push_cast;rfl,rfl,fun k hk2=>by
    by_cases e:k=n
    ·subst e;exact hfb
    ·exact HLT.out k (by omega),hk.2,by omega,rfl⟩
   rw [xR] at HX hk
   have hf0:(0:Int)≤(zO l n a:Int):=by omega
   have hfl:(zO l n a:Int)<l.length:=by omega
   have hfc:(zO l n a:Int)<(ec:Int):=by omega
   have hfb':(zO l n a:Int)<(b:Int):=by omega
   have hwn:IntKind.i64.wrap ((n:Int)+1)=(n:Int)+1:=wI (by omega)
   have HMS:Hid (b-zA l (zO l n a)<b-zO l n a):=Hd (by omega)
   clear hcell hk hlt hle
   generalize zA l (zO l n a)=z at *
   generalize zO l n a=f at *
   go_wp2_with fail
   exact ⟨HX.out,by have:=HMS.out;simp only [intOf];omega⟩
  ·have hg:=zUm HU.out hab hb hlt (by omega)
   have hfb':¬ (zO l n a:Int)<(b:Int):=by omega
   by_cases e:zO l n a=b
   ·have HX:=Hd (HQ.out n true (by omega) (fun _=>hg.1 e) (fun h=>by cases h))
    rw [e]
    rw [e] at hfb'
    clear hg hlt hle e
    go_wp2_with fail
    exact HX.out
   ·have HX:=Hd (HQ.out n false (by omega) (fun h=>by cases h) (fun _=>hg.2 e))
    have g1:((zO l n a:Int) == (b:Int))=false:=by rw [beq_eq_false_iff_ne];omega
    clear hg hlt hle
    generalize zO l n a=f at *
    go_wp2_with fail
    exact HX.out
end Go.Proofs.YtfalelkfhandfaaGreatDoor
namespace Go.Proofs.YtfalelkfhandfaaGreatDoor
set_option linter.all false

theorem zWw {r:RuleM} (hr:ruleZ r=0) (hg:r.goal=3):zM r.by' r.holes 0=none:=by
 obtain ⟨_,_,_,hb,hk,_,_,_⟩:=kG hr
 have hk:=hk hg
 have h0:=(yD (vP hb).1).1
 have e:zX r.by' 0=(r.by'[0]).1:=by unfold zX;rw [List.getElem?_eq_getElem h0]
 cases ho:zM r.by' r.holes 0 with
 | none=>rfl
 | some h =>
  obtain ⟨hh,hs⟩:=vC ho
  rcases yQ hs with ⟨_,_,_,h4,_⟩ | ⟨_,_,h5⟩
  ·omega
  ·have:=(zR h5).1
   omega
theorem fU {r:RuleM} (hr:ruleZ r=0) (hg:r.goal=3) (l:List Prt) (bs:List Bnd):∃ (x:PN) (M:List PN),madeP r l bs=x::M∧x.1.2.1=(cntP (M.map (·.1)):Int)∧outP r l bs=M:=by
 have hb:=(kG hr).2.2.2.1
 have h0:=(yD (vP hb).1).1
 have ho:=zWw hr hg
 refine ⟨_,_,(show madeP r l bs=_::_ by unfold madeP fuelZ;exact zHy ho h0),rfl,?_⟩
 unfold outP
 rw [if_pos hg]
 unfold madeP fuelZ
 rw [zHy ho h0]
 rfl
theorem zTe {r:RuleM} (hr:ruleZ r=0) (l:List Prt) (bs:List Bnd):(outP r l bs).length+(if r.goal=3 then 1 else 0)=(madeP r l bs).length:=by
 by_cases hg:r.goal=3
 ·obtain ⟨x,M,h1,_,h2⟩:=fU hr hg l bs
  rw [h1,h2,if_pos hg];rfl
 ·unfold outP
  rw [if_neg hg,if_neg hg];rfl
theorem zHb {r:RuleM} (hr:ruleZ r=0) {l:List Prt} {bs:List Bnd} (hb:BindsIn bs l) (hv:∀ h,∃ ts,zF (piece l (bOf bs h).1 (bOf bs h).2)=some ts):∃ ts,zF ((outP r l bs).map (·.1))=some ts:=by
 by_cases hg:r.goal=3
 ·obtain ⟨x,M,h1,_,h2⟩:=fU hr hg l bs
  obtain ⟨ts,h3⟩:=zAi (t:=r.by') (hs:=r.holes) (gC hb) hv (fuelZ r.by') 0
  have h4:zF ((x::M).map (·.1))=some ts:=by rw [← h1];exact h3
  rw [List.map_cons] at h4
  obtain ⟨us,h5,_⟩:=jB h4
  rw [h2]
  exact ⟨us,h5⟩
 ·unfold outP
  rw [if_neg hg]
  exact zAi (gC hb) hv _ 0
end Go.Proofs.YtfalelkfhandfaaGreatDoor
namespace Go.Proofs.YtfalelkfhandfaaGreatDoor
set_option linter.all false

section
variable {l:List Prt}
def upsAt (l:List Prt) (i k j:Nat):Int:=if j=0 then -1 else if upN l j<(i:Int)∨(upN l j=(i:Int)∧j<k) then upN l j else 0
def upsE (l:List Prt) (i k:Nat):List Int:=(List.range l.length).map (upsAt l i k)
theorem zJa {i k j:Nat} (h:j<(upsE l i k).length):(upsE l i k)[j]=upsAt l i k j:=by simp [upsE]
theorem zUh {us:List Nat} (hl:zF l=some us) {i k:Nat} (hi:i<l.length) (h1:i<k) (h2:k<zA l i) (hu:upN l k=(i:Int)):(upsE l i k).set k (i:Int)=upsE l i (zA l k):=by
 have hg:=zJ hl hi
 have hk:=zJ hl (show k<l.length by omega)
 apply List.ext_getElem (by simp [upsE])
 intro j g1 g2
 simp [upsE] at g1
 rw [List.getElem_set,zJa,zJa]
 unfold upsAt
 by_cases e:k=j
 ·subst e
  rw [if_pos rfl,if_neg (by omega),if_pos (Or.inr ⟨hu,hk.1⟩),hu]
 ·rw [if_neg e]
  by_cases j0:j=0
  ·rw [if_pos j0,if_pos j0]
  ·rw [if_neg j0,if_neg j0]
   congr 1
   apply propext
   constructor
   ·rintro (g | ⟨g,g3⟩)
    ·exact Or.inl g
    ·exact Or.inr ⟨g,by omega⟩
   ·rintro (g | ⟨g,g3⟩)
    ·exact Or.inl g
    ·refine Or.inr ⟨g,?_⟩
     apply Classical.byContradiction
     intro hc
     unfold upN at g
     have:=(zIk l g).2.2 k (by omega) (by omega)
     omega
theorem zQx {us:List Nat} (hl:zF l=some us) {i k:Nat} (hi:i<l.length) (h2:zA l i≤k):upsE l i k=upsE l (i+1) (i+1+1):=by
 unfold upsE
 apply List.map_congr_left
 intro j hj
 unfold upsAt
 by_cases j0:j=0
 ·rw [if_pos j0,if_pos j0]
 ·rw [if_neg j0,if_neg j0]
  congr 1
  apply propext
  have key:∀ a:Nat,upN l j=(a:Int)→a<j∧j<zA l a:=fun a g=>by
   unfold upN at g
   have:=zIk l g
   exact ⟨this.1,this.2.1⟩
  constructor
  ·rintro (g | ⟨g,_⟩)
   ·exact Or.inl (by push_cast;omega)
   ·exact Or.inl (by push_cast;omega)
  ·rintro (g | ⟨g,g3⟩)
   ·push_cast at g
    by_cases e:upN l j=(i:Int)
    ·exact Or.inr ⟨e,by have:=(key i e).2;omega⟩
    ·exact Or.inl (by omega)
   ·have:=key (i+1) g
    omega
theorem zLq (hw:zZ l=true):upsE l 0 1=(List.replicate l.length (0:Int)).set 0 (-1):=by
 apply List.ext_getElem (by simp [upsE])
 intro j g1 g2
 simp [upsE] at g1
 rw [List.getElem_set,zJa,List.getElem_replicate]
 unfold upsAt
 by_cases e:0=j
 ·subst e;rfl
 ·rw [if_neg (by omega),if_neg e,if_neg]
  have:=zNw hw g1 j (by omega)
  have:0≤upN l j:=this
  omega
theorem zUi {k:Nat}:upsE l l.length k=(List.range l.length).map (upN l):=by
 unfold upsE
 apply List.map_congr_left
 intro j hj
 rw [List.mem_range] at hj
 unfold upsAt
 by_cases e:j=0
 ·subst e;rfl
 ·rw [if_neg e,if_pos]
  have:=zBd l j
  exact Or.inl (by omega)
theorem zNq {us:List Nat} (hl:zF l=some us) {i:Nat} (hi:i<l.length):∀ n,(∀ m,m≤n→zO l m (i+1)<zA l i)→i<zO l n (i+1)∧∀ j,i<j→j<zO l n (i+1)→zA l j≤zO l n (i+1)
 | 0,_=>⟨by show i<i+1;omega,fun j h1 h2=>by have:j<i+1:=h2;omega⟩
 | n+1,h=>by
  obtain ⟨h1,h2⟩:=zNq hl hi n (fun m hm=>h m (by omega))
  have hg:=zJ hl hi
  have hn:=h n (by omega)
  have hk:=zJ hl (show zO l n (i+1)<l.length by omega)
  rw [xR]
  refine ⟨by omega,fun j g1 g2=>?_⟩
  rcases Nat.lt_trichotomy j (zO l n (i+1)) with c | c | c
  ·have:=h2 j g1 c;omega
  ·rw [c];exact Nat.le_refl _
  ·exact zFj hl (show zO l n (i+1)<l.length by omega) (Nat.le_of_lt c) g2
theorem zVw {us:List Nat} (hl:zF l=some us) {i:Nat} (hi:i<l.length) {n:Nat} (h:∀ m,m≤n→zO l m (i+1)<zA l i):upN l (zO l n (i+1))=(i:Int):=by
 obtain ⟨h1,h2⟩:=zNq hl hi n h
 exact zTw hl hi h1 (h n (Nat.le_refl _)) h2
end
section
variable (l:List Prt)
def moreL (A:List Mk):List Int:=(List.range l.length).map fun i=>yL l A i
theorem zHn (A:List Mk):(moreL l A).length=l.length:=by simp [moreL]
theorem zBi {A:List Mk} {j:Nat} (h:j<(moreL l A).length):(moreL l A)[j]=yL l A j:=by simp [moreL]
theorem zQy:moreL l []=List.replicate l.length 0:=by
 apply List.ext_getElem (by simp [moreL])
 intro j g1 g2
 simp [moreL,yL]
theorem fP (x:Nat) (m:List PN) (d:Int) (i:Nat):∀ A:List Mk,yL l (A++[(x,m,d)]) i=yL l A i+(if 0<x∧upN l x=(i:Int) then d else 0)
 | []=>by simp [yL]
 | (y,m',d')::A=>by rw [List.cons_append,yL,yL,fP x m d i A];omega
theorem zNr (A:List Mk) {x u:Nat} (m:List PN) (d:Int) (hx:0<x) (hu:upN l x=(u:Int)) (hul:u<l.length):moreL l (A++[(x,m,d)])=(moreL l A).set u (yL l A u+d):=by
 apply List.ext_getElem (by simp [moreL])
 intro j g1 g2
 rw [List.getElem_set,zBi,zBi,fP]
 by_cases e:u=j
 ·subst e;rw [if_pos rfl,if_pos ⟨hx,hu⟩]
 ·rw [if_neg e,if_neg (fun h=>e (by omega))];omega
theorem zQz (A:List Mk) (m:List PN) (d:Int):moreL l (A++[(0,m,d)])=moreL l A:=by
 unfold moreL
 apply List.map_congr_left
 intro j _
 rw [fP,if_neg (fun h=>by omega)];omega
theorem zCc (i:Nat):∀ A:List Mk,(∀ p∈A,-1≤p.2.2∧p.2.2≤131072)→-((A.length:Int)*131072)≤yL l A i∧yL l A i≤(A.length:Int)*131072
 | [],_=>by simp [yL]
 | (x,m,d)::A,h=>by
  have h1:=h (x,m,d) (by simp)
  have h2:=zCc i A (fun p hp=>h p (by simp [hp]))
  simp only [] at h1
  rw [yL,List.length_cons]
  push_cast
  split <;> omega
def laterS:List Mk→Int
 | []=>0
 | (x,m,_)::P=>(m.length:Int)-((zA l x:Int)-x)+laterS P
theorem zFo:∀ (P:List Mk) (a:Nat),laterZ l P a=(l.length:Int)-a+laterS l P
 | [],a=>by rw [laterZ,laterS];omega
 | (x,m,d)::P,a=>by rw [laterZ,laterS,zFo P];omega
theorem zAs {α:Type} (L:List α) {n:Nat} (h:n<L.length):L.take (n+1)=L.take n++[L[n]]:=by
 rw [List.take_succ,List.getElem?_eq_getElem h];rfl
end
theorem zRa {r:RuleM} {l:List Prt} {bs:List Bnd} (hr:ruleZ r=0) (hb:rightB r l bs=true) (hv:∀ h,∃ ts,zF (piece l (bOf bs h).1 (bOf bs h).2)=some ts):0≤kE r l bs∧kE r l bs≤(outP r l bs).length:=by
 obtain ⟨ts,h⟩:=zHb hr (jK hb) hv
 unfold kE
 rw [jP h]
 have:=(yO h).2.1
 rw [List.length_map] at this
 omega
end Go.Proofs.YtfalelkfhandfaaGreatDoor
namespace Go.Proofs.YtfalelkfhandfaaGreatDoor
set_option maxRecDepth 100000
set_option maxHeartbeats 32000000
set_option linter.all false
attribute [local irreducible] Calls
open Go.RowKit

theorem zPz (l:List Prt) (hl:l.length≤1000000000) (us:List Nat) (hus:zF l=some us) (v:Value) (w:World) (hr:zG w v l) :
  Calls Tryz.prog 56 #[v] w (ends2Post l w):=by
 have HQ:Hid (∀ v' w',Below w.heap.size w w'→w'.ownsRow w.heap.size 3 1 v' l.length ((endsL l).map (Value.int .i64))→ends2Post l w (.returned v') w'):=Hd fun v' w' h1 h2=>by
  unfold ends2Post;exact ⟨v',rfl,h1,h2⟩
 generalize ends2Post l w=Q at *
 have HR:=Hd hr
 have HU:=Hd hus
 obtain ⟨va,vcap,rfl,hvc⟩:=hr.slice
 clear hr hus
 have hmk:=vQ l.length hl
 have hwl:IntKind.i64.wrap ((l.length:Int)-1)=(l.length:Int)-1:=wI (by omega)
 go_enter Tryz.func56,Tryz.ntmps56
 go_wp2_with fail
 have HK0:Hid ((w.alloc (.cells (Array.replicate l.length (Value.int .i64 0)) 3)).heap[w.heap.size]?=some (.cells ((List.replicate l.length (0:Int)).map (Value.int .i64)).toArray 3 (0,0))):=Hd (by
  have:=heap_alloc_new w (.cells (Array.replicate l.length (Value.int .i64 0)) 3)
  rw [this,List.map_replicate,List.toArray_replicate])
 have HB0:Hid (Below w.heap.size w (w.alloc (.cells (Array.replicate l.length (Value.int .i64 0)) 3))):=Hd ((Below.refl _ _).alloc (Nat.le_refl _) _)
 generalize w.alloc (.cells (Array.replicate l.length (Value.int .i64 0)) 3)=W0 at *
 generalize hBB:w.heap.size=B at *
 have HBB:=Hd hBB
 clear hBB
 go_loopw [4] (fun j wr=>e2Rel l w j wr) (fun j _=>(intOf j+1).toNat)
 case atStart =>
  refine ⟨l.length,List.replicate l.length 0,rfl,Nat.le_refl _,by simp,fun i h1 h2=>by omega,?_,?_⟩
  ·rw [HBB.out];exact HK0.out
  ·rw [HBB.out];exact HB0.out
 case round =>
  obtain ⟨k,E,rfl,hk,hEl,hEq,hh,hb⟩:=hrel
  rw [HBB.out] at hh hb
  have HB:=Hd hb
  have HH:=Hd hh
  have HEQ:=Hd hEq
  have HEL:=Hd hEl
  have hBlt:B<wr.heap.size:=lt_of_block hh
  clear hb hh hEq hEl
  by_cases hk0:0<k
  ·obtain ⟨i,rfl⟩:∃ i,k=i+1:=⟨k-1,by omega⟩
   rw [show (((i+1:Nat):Int)-1)=(i:Int) by omega]
   have hil:i<l.length:=hk
   obtain ⟨b,off,rfl,_,_,hbl,hcell⟩:=HR.out.at (HBB.out ▸ HB.out) (show 0<l.length by omega)
   obtain ⟨q,hq1,hq2,hq4,hq3⟩:=zBe HU.out hil
   have c0:wr.cell? ⟨b,off+i*3+1,none⟩=some (.int .i64 (q:Int)):=by rw [(hcell i hil).2.1,hq1]
   have HKI:=Hd hq3
   have HKE:=Hd hq2
   have hi0:(0:Int)≤i:=by omega
   have hil':(i:Int)<l.length:=by omega
   have hic:(i:Int)<vcap:=by omega
   have hwi:IntKind.i64.wrap ((i:Int)+1)=(i:Int)+1:=wI (by omega)
   have hwm:IntKind.i64.wrap ((i:Int)-1)=(i:Int)-1:=wI (by omega)
   have c1:wr.cell? ⟨B,i,none⟩=some (.int .i64 (E.getD i 0)):=by
    simp [World.cell?,HH.out,HEL.out,hil,List.getD_eq_getElem?_getD]
   have z1:wr.frozen? ⟨B,i,none⟩=false:=by simp [World.frozen?,HH.out]
   have hbB:b≠B:=by have:=HBB.out;omega
   have c0':(wr.setCell ⟨B,i,none⟩ (.int .i64 ((i:Int)+1))).cell? ⟨b,off+i*3+1,none⟩=some (.int .i64 (q:Int)):=by
    rw [xC (by exact hbB)];exact c0
   have HAT:Hid (e2In l w E i q (.int .i64 0) (wr.setCell ⟨B,i,none⟩ (.int .i64 ((i:Int)+1)))):=Hd ⟨0,rfl,Nat.zero_le _,by
    rw [HBB.out,heap_setCell_same _ _ _ _ _ _ HH.out,List.setIfInBounds_toArray,← List.map_set];rfl,by
    rw [HBB.out];exact HB.out.setCell (p:=⟨B,i,none⟩) (Nat.le_refl _) _⟩
   clear hcell hq1 hq2 hq3 hk0 c0 hbB
   go_wp2_with fail
   clear c1 z1 c0'
   go_loopw [25] (fun cv wx=>e2In l w E i q cv wx) (fun cv _=>q-(intOf cv).toNat)
   case atStart=>exact HAT.out
   case round =>
    obtain ⟨c,rfl,hcq,hh2,hb2⟩:=hrel
    rw [HBB.out] at hh2 hb2
    have HH2:=Hd hh2
    have HB2:=Hd hb2
    clear hh2 hb2 HAT
    by_cases hlt:c<q
    ·obtain ⟨x1,x2⟩:=HKI.out c hlt
     have HXS:=Hd (xR l c (i+1))
     generalize zO l c (i+1)=x at *
     have d1:wr.cell? ⟨B,i,none⟩=some (.int .i64 (x:Int)):=by
      simp [World.cell?,HH2.out,HEL.out,hil]
     have d2:wr.cell? ⟨B,x,none⟩=some (.int .i64 (zA l x:Int)):=by
      have:=HEQ.out x (by omega) x2
      rw [List.getD_eq_getElem?_getD] at this
      simp only [World.cell?,HH2.out]
      rw [← this]
      simp [HEL.out,x2,show ¬ i=x by omega]
     have d3:wr.frozen? ⟨B,i,none⟩=false:=by simp [World.frozen?,HH2.out]
     have HN1:Hid ((wr.setCell ⟨B,i,none⟩ (.int .i64 (zA l x:Int))).heap[w.heap.size]?=some (.cells ((E.set i (zO l (c+1) (i+1):Int)).map (Value.int .i64)).toArray 3 (0,0))):=Hd (by
      rw [HBB.out,HXS.out,heap_setCell_same _ _ _ _ _ _ HH2.out,List.setIfInBounds_toArray,← List.map_set,List.set_set])
     have HN2:Hid (Below w.heap.size w (wr.setCell ⟨B,i,none⟩ (.int .i64 (zA l x:Int)))):=Hd (by
      rw [HBB.out];exact HB2.out.setCell (p:=⟨B,i,none⟩) (Nat.le_refl _) _)
     have hx0:(0:Int)≤(x:Int):=by omega
     have hxl:(x:Int)<l.length:=by omega
     have hci:(c:Int)<q:=by omega
     have hwc:IntKind.i64.wrap ((c:Int)+1)=(c:Int)+1:=wI (by omega)
     generalize zA l x=y at *
     clear HXS
     go_wp2_with fail
     refine ⟨⟨c+1,by go_num,by omega,HN1.out,HN2.out⟩,by simp [intOf];omega⟩
    ·obtain rfl:c=q:=by omega
     have hci:¬ (c:Int)<(c:Int):=by omega
     have HN:Hid (e2Rel l w (.int .i64 ((i:Int)-1)) wr):=Hd ⟨i,E.set i (zA l i:Int),rfl,by omega,by rw [List.length_set];exact HEL.out,fun j h1 h2=>by
      rw [List.getD_eq_getElem?_getD,List.getElem?_set]
      by_cases e:i=j
      ·subst e;(rw [if_pos rfl,if_pos (by rw [HEL.out];exact hil)];try rfl)
      ·rw [if_neg e,← List.getD_eq_getElem?_getD];exact HEQ.out j (by omega) h2,by rw [HBB.out,← HKE.out];exact HH2.out,by rw [HBB.out];exact HB2.out⟩
     go_wp2_with fail
     refine ⟨HN.out,by simp [intOf];try omega⟩
  ·obtain rfl:k=0:=by omega
   rw [show (((0:Nat):Int)-1)=-1 by rfl]
   have hEE:E=endsL l:=by
    apply List.ext_getElem (by rw [HEL.out,zN])
    intro j h1 h2
    have h3:=HEQ.out j (by omega) (by have:=HEL.out;omega)
    have h4:=xJ (l:=l) (j:=j) (by have:=HEL.out;omega)
    rw [List.getD_eq_getElem?_getD,List.getElem?_eq_getElem h1] at h3
    rw [List.getElem?_eq_getElem h2] at h4
    simp only [Option.getD_some] at h3
    rw [h3];exact (Option.some.inj h4).symm
   subst hEE
   have HX:=Hd (HQ.out (.slice (some ⟨B,0,none⟩) l.length l.length) wr HB.out (jS HH.out (Nat.le_refl _) (zN l) hl))
   go_wp2_with fail
   exact HX.out
end Go.Proofs.YtfalelkfhandfaaGreatDoor
namespace Go.Proofs.YtfalelkfhandfaaGreatDoor
set_option maxRecDepth 100000
set_option maxHeartbeats 32000000
set_option linter.all false
attribute [local irreducible] Calls
open Go.RowKit

@[irreducible] def fupsPost (l:List Prt) (w0:World) (e:Ending) (w':World):Prop :=
 ∃ v,e=.returned v∧Below w0.heap.size w0 w'∧w'.ownsRow w0.heap.size 3 1 v l.length (((List.range l.length).map (upN l)).map (Value.int .i64))
def fupRel (l:List Prt) (w:World) (iv:Value) (wr:World):Prop:=∃ i:Nat,iv=.int .i64 (i:Int)∧i≤l.length∧wr.heap[w.heap.size]?=some (.cells ((upsE l i (i+1)).map (Value.int .i64)).toArray 3 (0,0))∧Below w.heap.size w wr
def fupKid (l:List Prt) (i:Nat) (w:World) (kv:Value) (wr:World):Prop:=∃ n:Nat,kv=.int .i64 (zO l n (i+1):Int)∧(∀ m,m<n→zO l m (i+1)<zA l i)∧zO l n (i+1)≤l.length∧wr.heap[w.heap.size]?=some (.cells ((upsE l i (zO l n (i+1))).map (Value.int .i64)).toArray 3 (0,0))∧Below w.heap.size w wr
theorem zUt (l:List Prt) (hl:l.length≤1000000000) (hw:zZ l=true) (vl ve:Value) (w:World) (hlr:zG w vl l) (her:zK w ve .i64 (endsL l)) :
  Calls Tryz.prog 19 #[vl,ve] w (fupsPost l w):=by
 have HQ:Hid (∀ v' w',Below w.heap.size w w'→w'.ownsRow w.heap.size 3 1 v' l.length (((List.range l.length).map (upN l)).map (Value.int .i64))→fupsPost l w (.returned v') w'):=Hd fun v' w' h1 h2=>by
  unfold fupsPost;exact ⟨v',rfl,h1,h2⟩
 generalize fupsPost l w=Q at *
 have HU:=Hd (zI hw)
 have h0:=(yD hw).1
 have HS:=Hd (zLq hw)
 have hel:=zN l
 have HR:=Hd her
 obtain ⟨va,vcap,rfl,hvc⟩:=hlr.slice
 obtain ⟨ea,ec,rfl,hec,hop⟩:=her.open'
 rw [hel] at hec
 obtain ⟨eb,eo,rfl,heb,y3⟩:=hop (by rw [hel];omega)
 clear y3 hlr her hw hop
 have hmk:=vQ l.length hl
 rw [hel] at HR
 rw [hel]
 go_enter Tryz.func19,Tryz.ntmps19
 have h00:(0:Int)<l.length:=by omega
 have HZ1:Hid ((w.alloc (.cells ((Array.replicate l.length (Value.int .i64 0)).setIfInBounds 0 (.int .i64 (-1))) 3)).heap[w.heap.size]?=some (.cells ((upsE l 0 (0+1)).map (Value.int .i64)).toArray 3 (0,0))):=Hd (by
  rw [HS.out,heap_alloc_new,List.map_set,List.map_replicate,← List.setIfInBounds_toArray,List.toArray_replicate])
 have HZ2:Hid (Below w.heap.size w (w.alloc (.cells ((Array.replicate l.length (Value.int .i64 0)).setIfInBounds 0 (.int .i64 (-1))) 3))):=Hd ((Below.refl _ _).alloc (Nat.le_refl _) _)
 have z0:(w.alloc (.cells (Array.replicate l.length (Value.int .i64 0)) 3)).cell? ⟨w.heap.size,0,none⟩=some (.int .i64 0):=by
  rw [World.cell?_alloc_at _ _ _ _ rfl];simp [h0]
 have z1:(w.alloc (.cells (Array.replicate l.length (Value.int .i64 0)) 3)).frozen? ⟨w.heap.size,0,none⟩=false:=by
  unfold World.frozen?
  rw [heap_alloc_new]
  rfl
 go_wp2_with fail
 clear z0 z1
 generalize w.alloc (.cells ((Array.replicate l.length (Value.int .i64 0)).setIfInBounds 0 (.int .i64 (-1))) 3)=W0 at *
 generalize hBB:w.heap.size=B at *
 have HBB:=Hd hBB
 clear hBB
 go_loopw [15] (fun iv wr=>fupRel l w iv wr) (fun iv _=>l.length-(intOf iv).toNat)
 case atStart=>exact ⟨0,rfl,Nat.zero_le _,by rw [HBB.out];exact HZ1.out,by rw [HBB.out];exact HZ2.out⟩
 case round =>
  obtain ⟨i,rfl,hi,hh,hb⟩:=hrel
  rw [HBB.out] at hh hb
  have HH:=Hd hh
  have HB:=Hd hb
  clear hh hb
  by_cases hlt:i<l.length
  case neg =>
   obtain rfl:i=l.length:=by omega
   have HX:=Hd (HQ.out (.slice (some ⟨B,0,none⟩) l.length l.length) wr HB.out (jS (by rw [← zUi];exact HH.out) (Nat.le_refl _) (by simp) hl))
   go_wp2_with fail
   exact HX.out
  have hi0:(0:Int)≤(i:Int):=by omega
  have hil:(i:Int)<l.length:=by omega
  have hic:(i:Int)<ec:=by omega
  have hwi:IntKind.i64.wrap ((i:Int)+1)=(i:Int)+1:=wI (by omega)
  have hgi:=zJ HU.out hlt
  have HAT:Hid (fupKid l i w (.int .i64 ((i:Int)+1)) wr):=Hd ⟨0,by show _=Value.int .i64 (((i+1:Nat)):Int);push_cast;rfl,fun m hm=>absurd hm (Nat.not_lt_zero _),hlt,by rw [HBB.out];exact HH.out,by rw [HBB.out];exact HB.out⟩
  go_wp2_with fail
  go_loopw [7] (fun kv wx=>fupKid l i w kv wx) (fun kv _=>zA l i-(intOf kv).toNat)
  case atStart=>exact HAT.out
  case round =>
   obtain ⟨n,rfl,hlm,hkl,hh2,hb2⟩:=hrel
   rw [HBB.out] at hh2 hb2
   have HH2:=Hd hh2
   have HB2:=Hd hb2
   have HLM:=Hd hlm
   clear hh2 hb2 HAT hlm
   obtain ⟨b2,o2,e',y1,y2,hcell⟩:=gX HR.out (HBB.out ▸ HB2.out) (by rw [hel];omega)
   simp only [Option.some.injEq,Addr.mk.injEq,and_true] at e'
   obtain ⟨rfl,rfl⟩:=e'
   clear y1 y2
   have ci:=hcell _ _ (xJ (l:=l) (j:=i) hlt)
   by_cases hke:zO l n (i+1)<zA l i
   case neg =>
    have g1:¬ (zO l n (i+1):Int)<(zA l i:Int):=by omega
    have HX:Hid (fupRel l w (.int .i64 ((i:Int)+1)) wr):=Hd ⟨i+1,by push_cast;rfl,hlt,by rw [HBB.out,← zQx HU.out hlt (show zA l i≤zO l n (i+1) by omega)];exact HH2.out,by rw [HBB.out];exact HB2.out⟩
    clear hcell hkl hke
    generalize zO l n (i+1)=k at *
    generalize zA l i=ei at *
    go_wp2_with fail
    exact ⟨HX.out,by simp only [intOf];omega⟩
   have hall:∀ m,m≤n→zO l m (i+1)<zA l i:=fun m hm=>by
    by_cases e:m=n
    ·subst e;exact hke
    ·exact HLM.out m (by omega)
   have hup:=zVw HU.out hlt hall
   have hik:=(zNq HU.out hlt n hall).1
   have ck:=hcell _ _ (xJ (l:=l) (j:=zO l n (i+1)) (by omega))
   have hkg:=zJ HU.out (show zO l n (i+1)<l.length by omega)
   have hcB:wr.cell? ⟨B,zO l n (i+1),none⟩=some (.int .i64 (upsAt l i (zO l n (i+1)) (zO l n (i+1)))):=by
    simp [World.cell?,HH2.out,upsE,show zO l n (i+1)<l.length by omega]
   have hzB:wr.frozen? ⟨B,zO l n (i+1),none⟩=false:=by simp [World.frozen?,HH2.out]
   have hbB:eb≠B:=by have:=HBB.out;omega
   have ck2:(wr.setCell ⟨B,zO l n (i+1),none⟩ (.int .i64 (i:Int))).cell? ⟨eb,eo+zO l n (i+1),none⟩=some (.int .i64 (zA l (zO l n (i+1)):Int)):=by
    rw [xC (by exact hbB)];exact ck
   have HX:Hid (fupKid l i w (.int .i64 (zA l (zO l n (i+1)):Int)) (wr.setCell ⟨B,zO l n (i+1),none⟩ (.int .i64 (i:Int)))):=Hd ⟨n+1,by rw [xR],fun m hm=>hall m (by omega),by rw [xR];exact hkg.2,by
    rw [HBB.out,xR,← zUh HU.out hlt hik hke hup,heap_setCell_same _ _ _ _ _ _ HH2.out,List.map_set,List.setIfInBounds_toArray],by rw [HBB.out];exact HB2.out.setCell (p:=⟨B,_,none⟩) (Nat.le_refl _) _⟩
   have hk0:(0:Int)≤(zO l n (i+1):Int):=by omega
   have hkl1:(zO l n (i+1):Int)<l.length:=by omega
   have hkc1:(zO l n (i+1):Int)<ec:=by omega
   have hke1:(zO l n (i+1):Int)<(zA l i:Int):=by omega
   have hkm:Hid (zA l i-zA l (zO l n (i+1))<zA l i-zO l n (i+1)):=Hd (by omega)
   generalize upsAt l i (zO l n (i+1)) (zO l n (i+1))=old at *
   clear hcell hkl hke hall hup hik hkg
   generalize zA l (zO l n (i+1))=ek at *
   generalize zO l n (i+1)=k at *
   generalize zA l i=ei at *
   go_wp2_with fail
   exact ⟨HX.out,by have:=hkm.out;simp only [intOf];omega⟩
end Go.Proofs.YtfalelkfhandfaaGreatDoor
