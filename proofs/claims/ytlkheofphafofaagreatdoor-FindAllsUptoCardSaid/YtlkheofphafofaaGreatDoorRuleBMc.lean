/- Layer 16: the program's stands, walked. -/
import Derived.Test.YtlkheofphafofaaGreatDoorRuleVMc
import Derived.Test.YtlkheofphafofaaGreatDoorMatchPMc
import Derived.Test.YtlkheofphafofaaGreatDoorTermQMc
import Derived.Test.YtlkheofphafofaaGreatDoorStillMc
namespace Go.Proofs.YtlkheofphafofaaGreatDoor
set_option linter.all false
attribute [local irreducible] Calls
open Go.RowKit

def upsL (l:List Prt):List Int:=(List.range l.length).map (upN l)
theorem upsL_length (l:List Prt):(upsL l).length=l.length:=by simp [upsL]
theorem upsL_get {l:List Prt} {j:Nat} (hj:j<(upsL l).length):(upsL l)[j]=upN l j:=by simp [upsL]
theorem kind_is (l:List Prt) (u:Int) (n:Nat) (hn:n≠69):(kindI l u == some n)=(kindU l u == (n:Int)):=by
 unfold kindU
 cases kindI l u with
 | none=>simp;omega
 | some k=>rw [Bool.eq_iff_iff];simp;omega
set_option maxRecDepth 100000 in
set_option maxHeartbeats 8000000 in
theorem rule_stands (l:List Prt) (hl:l.length≤1000000000) (v vup:Value) (w:World) (hr:PartRow w v l) (hup:RowInts w vup .i64 (upsL l)) (i:Nat) (hi:i<l.length) (k:Nat) :
  Calls Tryz.prog 72 #[v,vup,.int .i64 (i:Int),.int .u8 (k:Int)] w fun e w'=>e=.returned (.bool (placeOK l k i))∧w=w':=by
 have HQ:RowKit.Hid (∀ x,placeOK l k i=x→(fun (e:Ending) w'=>e=.returned (.bool (placeOK l k i))∧w=w') (.returned (.bool x)) w):=Hd fun x h=>⟨by rw [h],rfl⟩
 generalize (fun (e:Ending) w'=>e=.returned (.bool (placeOK l k i))∧w=w')=Q at *
 have hge:=upN_ge l i
 have hlt:=upN_less l i
 have CK:=Hd (fun u h1 h2=>rule_kind l hl v u h1 h2 w hr)
 obtain ⟨ua,ucap,hv,hc,hrow⟩:=hup.open'
 obtain ⟨b,off,rfl,_,hcell⟩:=hrow (by rw [upsL_length];omega)
 subst hv
 have c0:w.cell? ⟨b,off+i,none⟩=some (.int .i64 (upN l i)):=by rw [hcell i (by rw [upsL_length];exact hi),upsL_get]
 rw [upsL_length] at hc ⊢
 have HC:=Hd hcell
 have hi0:(0:Int)≤(i:Int):=by omega
 have hil:(i:Int)<l.length:=by omega
 clear hrow hup hr hcell
 have HP:RowKit.Hid (placeOK l k i=if k=5 then kindU l (upN l i) == 50 else if k=7 then (kindU l (upN l i) == 50&&kindU l (upN l (upN l i).toNat) == 13) else if k=6 then (kindU l (upN l i) == 11 || kindU l (upN l i) == 12) else true):=Hd (by
  unfold placeOK
  rw [kind_is _ _ 50 (by omega),kind_is _ _ 13 (by omega),kind_is _ _ 11 (by omega),kind_is _ _ 12 (by omega)];rfl)
 have C1:=Hd (CK.out (upN l i) hge (by omega))
 by_cases k5:k=5
 ·subst k5
  have HX:=Hd (HQ.out _ HP.out)
  rw [if_pos rfl] at HX
  generalize upN l i=u at *
  generalize kindU l u=x at *
  go_enter Tryz.func72,Tryz.ntmps72
  go_wp2_with fail
  refine C1.out.mono ?_
  rintro e w2 ⟨rfl,rfl⟩
  go_wp2_with fail
  exact HX.out
 have hn5:((k:Int) == 5)=false:=by rw [beq_eq_false_iff_ne];omega
 have hm5:(k == 5)=false:=by rw [beq_eq_false_iff_ne];exact k5
 by_cases k7:k=7
 ·subst k7
  have HX:=Hd (HQ.out _ HP.out)
  rw [if_neg (by omega),if_pos rfl] at HX
  by_cases hx:kindU l (upN l i)=50
  ·have hu0:0≤upN l i:=by
    by_cases c:upN l i<0
    ·unfold kindU kindI at hx
     rw [if_pos c] at hx
     cases hx
    ·omega
   obtain ⟨j,hj⟩:∃ j:Nat,upN l i=(j:Int):=⟨(upN l i).toNat,by omega⟩
   have hjl:j<l.length:=by omega
   have c1:w.cell? ⟨b,off+j,none⟩=some (.int .i64 (upN l j)):=by rw [HC.out j (by rw [upsL_length];exact hjl),upsL_get]
   have C2:=Hd (CK.out (upN l j) (upN_ge l j) (by have:=upN_less l j;omega))
   rw [hx,hj,Int.toNat_natCast] at HX
   rw [hx] at C1
   rw [hj] at C1 c0
   have hj0:(0:Int)≤(j:Int):=by omega
   have hjli:(j:Int)<l.length:=by omega
   clear hx hj hge hlt hu0 HP HQ
   generalize upN l j=u at *
   generalize kindU l u=y at *
   go_enter Tryz.func72,Tryz.ntmps72
   go_wp2_with fail
   refine C1.out.mono ?_
   rintro e w2 ⟨rfl,rfl⟩
   go_wp2_with fail
   refine C2.out.mono ?_
   rintro e w2 ⟨rfl,rfl⟩
   go_wp2_with fail
   exact HX.out
  ·have hxb:(kindU l (upN l i) == 50)=false:=by rw [beq_eq_false_iff_ne];exact hx
   rw [hxb,Bool.false_and] at HX
   clear hx HP HQ
   generalize upN l i=u at *
   generalize kindU l u=x at *
   go_enter Tryz.func72,Tryz.ntmps72
   go_wp2_with fail
   refine C1.out.mono ?_
   rintro e w2 ⟨rfl,rfl⟩
   go_wp2_with fail
   exact HX.out
 have hn7:((k:Int) == 7)=false:=by rw [beq_eq_false_iff_ne];omega
 have hm7:(k == 7)=false:=by rw [beq_eq_false_iff_ne];exact k7
 by_cases k6:k=6
 ·subst k6
  have HX:=Hd (HQ.out _ HP.out)
  rw [if_neg (by omega),if_neg (by omega),if_pos rfl] at HX
  clear HP HQ
  generalize upN l i=u at *
  generalize kindU l u=x at *
  cases hx:x == 11 with
  | true =>
   rw [hx,Bool.true_or] at HX
   go_enter Tryz.func72,Tryz.ntmps72
   go_wp2_with fail
   refine C1.out.mono ?_
   rintro e w2 ⟨rfl,rfl⟩
   go_wp2_with fail
   exact HX.out
  | false =>
   rw [hx,Bool.false_or] at HX
   go_enter Tryz.func72,Tryz.ntmps72
   go_wp2_with fail
   refine C1.out.mono ?_
   rintro e w2 ⟨rfl,rfl⟩
   go_wp2_with fail
   refine C1.out.mono ?_
   rintro e w2 ⟨rfl,rfl⟩
   go_wp2_with fail
   exact HX.out
 ·have hn6:((k:Int) == 6)=false:=by rw [beq_eq_false_iff_ne];omega
  have HX:=Hd (HQ.out _ HP.out)
  rw [if_neg k5,if_neg k7,if_neg k6] at HX
  clear HP HQ
  go_enter Tryz.func72,Tryz.ntmps72
  go_wp2_with fail
  exact HX.out
end Go.Proofs.YtlkheofphafofaaGreatDoor
namespace Go.Proofs.YtlkheofphafofaaGreatDoor
set_option linter.all false
attribute [local irreducible] Calls
open Go.RowKit

theorem pl_bytes_ne {x y:ByteArray} (h:x≠y):x.toList≠y.toList:=fun e=>h (by
 rw [ByteArray.toList_eq,ByteArray.toList_eq] at e
 exact ByteArray.ext (Array.ext' e))
def UpsC (l:List Prt):Prop:=∀ (v:Value) (w:World),PartRow w v l→Calls Tryz.prog 71 #[v] w fun e w'=>∃ v',e=.returned v'∧Below w.heap.size w w'∧RowInts w' v' .i64 (upsL l)
@[irreducible] def placedPost (z:Int) (w0:World) (e:Ending) (w':World):Prop :=
 Below w0.heap.size w0 w'∧e=if 0≤z then .returned (.tuple #[.int .i64 z,.bool true]) else .returned (.tuple #[.int .i64 0,.bool false])
def plRel (l:List Prt) (h:Hl) (w0:World) (nv iv:Value) (wr:World):Prop :=
 ∃ k n:Nat,iv=.int .i64 (k:Int)∧nv=.int .i64 (n:Int)∧k≤l.length∧n≤k∧placesF l h (l.length-k) k (n:Int)=placesZ l h∧Below w0.heap.size w0 wr
set_option maxRecDepth 100000 in
set_option maxHeartbeats 8000000 in
theorem rule_placed (l:List Prt) (hl:l.length≤1000000000) (hf:∀ p∈l,p.1<256) (CU:UpsC l) (v:Value) (h:Hl) (w:World) (hr:PartRow w v l) :
  Calls Tryz.prog 45 #[v,.agg #[.string h.1,.int .u8 (h.2:Int)]] w (placedPost (placesZ l h) w):=by
 have HQ:RowKit.Hid (∀ w',Below w.heap.size w w'→0≤placesZ l h→placedPost (placesZ l h) w (.returned (.tuple #[.int .i64 (placesZ l h),.bool true])) w'):=Hd fun w' hb hz=>by
  unfold placedPost;rw [if_pos hz];exact ⟨hb,rfl⟩
 have HN:RowKit.Hid (∀ w',Below w.heap.size w w'→placesZ l h=-1→placedPost (placesZ l h) w (.returned (.tuple #[.int .i64 0,.bool false])) w'):=Hd fun w' hb hz=>by
  unfold placedPost;rw [if_neg (by omega)];exact ⟨hb,rfl⟩
 generalize placedPost (placesZ l h) w=Q at *
 have hbx:Below w.heap.size w (w.alloc (.cells #[.string h.1,.int .u8 (h.2:Int)] 43)):=(Below.refl _ _).alloc (Nat.le_refl _) _
 have HBX:=Hd hbx
 have CU:=Hd (CU v _ (hr.below hbx))
 have e0:(w.alloc (.cells #[.string h.1,.int .u8 (h.2:Int)] 43)).cell? ⟨w.heap.size,0,none⟩=some (.string h.1):=World.cell?_alloc_at _ _ _ _ rfl
 have e1:(w.alloc (.cells #[.string h.1,.int .u8 (h.2:Int)] 43)).cell? ⟨w.heap.size,1,none⟩=some (.int .u8 (h.2:Int)):=World.cell?_alloc_at _ _ _ _ rfl
 have hz0:w.heap.size<(w.alloc (.cells #[.string h.1,.int .u8 (h.2:Int)] 43)).heap.size:=by simp
 have HR:=Hd hr
 obtain ⟨va,vcap,rfl,hvc⟩:=hr.slice
 clear hr hbx
 go_enter Tryz.func45,Tryz.ntmps45
 go_wp2_with fail
 refine CU.out.mono ?_
 rintro e w1 ⟨vu,rfl,hb1,hup⟩
 have HB1:=Hd (bthen HBX.out hb1)
 have HU:=Hd hup
 have HE0:=Hd (show w1.cell? ⟨w.heap.size,0,none⟩=some (.string h.1) by rw [hb1.cell (p:=⟨w.heap.size,0,none⟩) hz0];exact e0)
 have HE1:=Hd (show w1.cell? ⟨w.heap.size,1,none⟩=some (.int .u8 (h.2:Int)) by rw [hb1.cell (p:=⟨w.heap.size,1,none⟩) hz0];exact e1)
 have HZ1:=Hd (show w.heap.size<w1.heap.size from Nat.lt_of_lt_of_le hz0 hb1.size)
 obtain ⟨ua,ucap,hvu,_,_⟩:=hup.open'
 subst hvu
 clear hb1 hup e0 e1 hz0 CU HBX
 go_wp2_with fail
 go_loopw [6,14] (fun nv iv wr=>plRel l h w1 nv iv wr) (fun _ iv _=>l.length-(intOf iv).toNat)
 case atStart=>exact ⟨0,0,rfl,rfl,Nat.zero_le _,Nat.le_refl _,rfl,Below.refl _ _⟩
 case round =>
  obtain ⟨k,n,rfl,rfl,hk,hnk,hpf,hb⟩:=hrel
  have HB:=Hd hb
  have HPF:=Hd hpf
  clear hb hpf
  by_cases hlt:k<l.length
  ·obtain ⟨b,off,rfl,_,_,hbl,hcell⟩:=HR.out.at (bthen HB1.out HB.out) (show 0<l.length by omega)
   obtain ⟨d0,d1,d2⟩:=hcell k hlt
   have hs:=HPF.out
   rw [show l.length-k=(l.length-(k+1))+1 by omega,placesF,List.getElem?_eq_getElem hlt] at hs
   generalize hp:l[k]=p at *
   obtain ⟨a,c,s⟩:=p
   simp only [] at d0 d1 d2 hs
   have hbp:Below w1.heap.size w1 (wr.alloc (.cells #[.int .u8 (a:Int),.int .i64 c,.string s] 48)):=HB.out.alloc HB.out.size _
   have g0:(wr.alloc (.cells #[.int .u8 (a:Int),.int .i64 c,.string s] 48)).cell? ⟨w.heap.size,0,none⟩=some (.string h.1):=by
    rw [hbp.cell (p:=⟨w.heap.size,0,none⟩) HZ1.out];exact HE0.out
   have g1:(wr.alloc (.cells #[.int .u8 (a:Int),.int .i64 c,.string s] 48)).cell? ⟨w.heap.size,1,none⟩=some (.int .u8 (h.2:Int)):=by
    rw [hbp.cell (p:=⟨w.heap.size,1,none⟩) HZ1.out];exact HE1.out
   have hrp:=HR.out.below (bthen HB1.out hbp)
   have CS:=Hd (rule_stands l hl _ _ _ hrp (HU.out.below hbp) k hlt h.2)
   have HBP:=Hd hbp
   have HS:=Hd hs
   clear hbp hrp hs hcell
   by_cases ha:a=26
   ·subst ha
    rw [show ((26:Nat):Int)=26 from rfl] at d0 g0 g1 CS HBP
    by_cases hw:s=h.1
    ·subst hw
     by_cases ho:placeOK l h.2 k=true
     ·have HX:RowKit.Hid (placesF l h (l.length-(k+1)) (k+1) ((n:Int)+1)=placesZ l h):=Hd (by
       have:=HS.out;unfold isPlace at this;simpa [ho] using this)
      rw [ho] at CS
      go_wp2_with fail
      refine CS.out.mono ?_
      rintro e w2 ⟨rfl,rfl⟩
      go_wp2_with fail
      case roundEnd=>exact ⟨⟨k+1,n+1,by push_cast;rfl,by push_cast;rfl,by omega,by omega,by have:=HX.out;push_cast;exact this,HBP.out⟩,by simp only [intOf];omega⟩
     ·have ho:placeOK l h.2 k=false:=by simpa using ho
      have HX:RowKit.Hid (placesZ l h=-1):=Hd (by
       have:=HS.out;unfold isPlace at this;simpa [ho] using this.symm)
      rw [ho] at CS
      go_wp2_with fail
      refine CS.out.mono ?_
      rintro e w2 ⟨rfl,rfl⟩
      go_wp2_with fail
      exact HN.out _ (bthen HB1.out HBP.out) HX.out
    ·have HX:RowKit.Hid (placesF l h (l.length-(k+1)) (k+1) (n:Int)=placesZ l h):=Hd (by
      have:=HS.out;unfold isPlace at this;simpa [hw] using this)
     have g2:(s.toList == h.1.toList)=false:=by rw [beq_eq_false_iff_ne];exact pl_bytes_ne hw
     go_wp2_with fail
     case roundEnd=>exact ⟨⟨k+1,n,by push_cast;rfl,rfl,by omega,by omega,HX.out,HBP.out⟩,by simp only [intOf];omega⟩
   ·have HX:RowKit.Hid (placesF l h (l.length-(k+1)) (k+1) (n:Int)=placesZ l h):=Hd (by
     have:=HS.out;unfold isPlace at this;simpa [ha] using this)
    have g2:((a:Int) == 26)=false:=by rw [beq_eq_false_iff_ne];omega
    go_wp2_with fail
    case roundEnd=>exact ⟨⟨k+1,n,by push_cast;rfl,rfl,by omega,by omega,HX.out,HBP.out⟩,by simp only [intOf];omega⟩
  ·have hkl:k=l.length:=by omega
   subst hkl
   have hz:=HPF.out
   rw [Nat.sub_self,placesF] at hz
   have HX:=Hd (HQ.out wr (bthen HB1.out HB.out) (by omega))
   rw [← hz] at HX
   go_wp2_with fail
   exact HX.out
end Go.Proofs.YtlkheofphafofaaGreatDoor
namespace Go.Proofs.YtlkheofphafofaaGreatDoor
set_option linter.all false
open Go.RowKit

set_option maxRecDepth 100000 in
set_option maxHeartbeats 8000000 in
theorem find_ends (l:List Prt) (hl:l.length≤1000000000) (us:List Nat) (hus:rowsB l=some us) (v:Value) (w:World) (hr:PartRow w v l) :
  Calls Tryz.prog 85 #[v] w (ends2Post l w):=by
 have HQ:RowKit.Hid (∀ v' w',Below w.heap.size w w'→w'.ownsRow w.heap.size 3 1 v' l.length ((endsL l).map (Value.int .i64))→ends2Post l w (.returned v') w'):=Hd fun v' w' h1 h2=>by
  unfold ends2Post;exact ⟨v',rfl,h1,h2⟩
 generalize ends2Post l w=Q at *
 have HR:=Hd hr
 have HU:=Hd hus
 obtain ⟨va,vcap,rfl,hvc⟩:=hr.slice
 clear hr hus
 have hmk:=Tmake_ints l.length hl
 have hwl:IntKind.i64.wrap ((l.length:Int)-1)=(l.length:Int)-1:=by rw [IntKind.wrap_i64];omega
 go_enter Tryz.func85,Tryz.ntmps85
 go_wp2_with fail
 have HK0:RowKit.Hid ((w.alloc (.cells (Array.replicate l.length (Value.int .i64 0)) 3)).heap[w.heap.size]?=some (.cells ((List.replicate l.length (0:Int)).map (Value.int .i64)).toArray 3 (0,0))):=Hd (by
  have:=heap_alloc_new w (.cells (Array.replicate l.length (Value.int .i64 0)) 3)
  rw [this,List.map_replicate,List.toArray_replicate])
 have HB0:RowKit.Hid (Below w.heap.size w (w.alloc (.cells (Array.replicate l.length (Value.int .i64 0)) 3))):=Hd ((Below.refl _ _).alloc (Nat.le_refl _) _)
 generalize w.alloc (.cells (Array.replicate l.length (Value.int .i64 0)) 3)=W0 at *
 generalize hBB:w.heap.size=B at *
 have HBB:=Hd hBB
 clear hBB
 go_loopw [4] (fun j wr=>e2Rel l w j wr) (fun j _=>(intOf j+1).toNat)
 case atStart =>
  refine ⟨l.length,List.replicate l.length 0,rfl,Nat.le_refl _,by simp,fun i h1 h2=>by omega,?_,?_⟩
  ·rw [HBB.out];exact HK0.out
  ·rw [HBB.out];exact HB0.out
 case round =>
  obtain ⟨k,E,rfl,hk,hEl,hEq,hh,hb⟩:=hrel
  rw [HBB.out] at hh hb
  have HB:=Hd hb
  have HH:=Hd hh
  have HEQ:=Hd hEq
  have HEL:=Hd hEl
  have hBlt:B<wr.heap.size:=lt_of_block hh
  clear hb hh hEq hEl
  by_cases hk0:0<k
  ·obtain ⟨i,rfl⟩:∃ i,k=i+1:=⟨k-1,by omega⟩
   rw [show (((i+1:Nat):Int)-1)=(i:Int) by omega]
   have hil:i<l.length:=hk
   obtain ⟨b,off,rfl,_,_,hbl,hcell⟩:=HR.out.at (HBB.out ▸ HB.out) (show 0<l.length by omega)
   obtain ⟨q,hq1,hq2,hq4,hq3⟩:=kids_go HU.out hil
   have c0:wr.cell? ⟨b,off+i*3+1,none⟩=some (.int .i64 (q:Int)):=by rw [(hcell i hil).2.1,hq1]
   have HKI:=Hd hq3
   have HKE:=Hd hq2
   have hi0:(0:Int)≤i:=by omega
   have hil':(i:Int)<l.length:=by omega
   have hic:(i:Int)<vcap:=by omega
   have hwi:IntKind.i64.wrap ((i:Int)+1)=(i:Int)+1:=by rw [IntKind.wrap_i64];omega
   have hwm:IntKind.i64.wrap ((i:Int)-1)=(i:Int)-1:=by rw [IntKind.wrap_i64];omega
   have c1:wr.cell? ⟨B,i,none⟩=some (.int .i64 (E.getD i 0)):=by
    simp [World.cell?,HH.out,HEL.out,hil,List.getD_eq_getElem?_getD]
   have z1:wr.frozen? ⟨B,i,none⟩=false:=by simp [World.frozen?,HH.out]
   have hbB:b≠B:=by have:=HBB.out;omega
   have c0':(wr.setCell ⟨B,i,none⟩ (.int .i64 ((i:Int)+1))).cell? ⟨b,off+i*3+1,none⟩=some (.int .i64 (q:Int)):=by
    rw [Tcell_setCell_ne (by exact hbB)];exact c0
   have HAT:RowKit.Hid (e2In l w E i q (.int .i64 0) (wr.setCell ⟨B,i,none⟩ (.int .i64 ((i:Int)+1)))):=Hd ⟨0,rfl,Nat.zero_le _,by
    rw [HBB.out,heap_setCell_same _ _ _ _ _ _ HH.out,List.setIfInBounds_toArray,← List.map_set];rfl,by
    rw [HBB.out];exact HB.out.setCell (p:=⟨B,i,none⟩) (Nat.le_refl _) _⟩
   clear hcell hq1 hq2 hq3 hk0 c0 hbB
   go_wp2_with fail
   clear c1 z1 c0'
   go_loopw [25] (fun cv wx=>e2In l w E i q cv wx) (fun cv _=>q-(intOf cv).toNat)
   case atStart=>exact HAT.out
   case round =>
    obtain ⟨c,rfl,hcq,hh2,hb2⟩:=hrel
    rw [HBB.out] at hh2 hb2
    have HH2:=Hd hh2
    have HB2:=Hd hb2
    clear hh2 hb2 HAT
    by_cases hlt:c<q
    ·obtain ⟨x1,x2⟩:=HKI.out c hlt
     have HXS:=Hd (kidAt_snoc l c (i+1))
     generalize kidAt l c (i+1)=x at *
     have d1:wr.cell? ⟨B,i,none⟩=some (.int .i64 (x:Int)):=by
      simp [World.cell?,HH2.out,HEL.out,hil]
     have d2:wr.cell? ⟨B,x,none⟩=some (.int .i64 (endB l x:Int)):=by
      have:=HEQ.out x (by omega) x2
      rw [List.getD_eq_getElem?_getD] at this
      simp only [World.cell?,HH2.out]
      rw [← this]
      simp [HEL.out,x2,show ¬ i=x by omega]
     have d3:wr.frozen? ⟨B,i,none⟩=false:=by simp [World.frozen?,HH2.out]
     have HN1:RowKit.Hid ((wr.setCell ⟨B,i,none⟩ (.int .i64 (endB l x:Int))).heap[w.heap.size]?=some (.cells ((E.set i (kidAt l (c+1) (i+1):Int)).map (Value.int .i64)).toArray 3 (0,0))):=Hd (by
      rw [HBB.out,HXS.out,heap_setCell_same _ _ _ _ _ _ HH2.out,List.setIfInBounds_toArray,← List.map_set,List.set_set])
     have HN2:RowKit.Hid (Below w.heap.size w (wr.setCell ⟨B,i,none⟩ (.int .i64 (endB l x:Int)))):=Hd (by
      rw [HBB.out];exact HB2.out.setCell (p:=⟨B,i,none⟩) (Nat.le_refl _) _)
     have hx0:(0:Int)≤(x:Int):=by omega
     have hxl:(x:Int)<l.length:=by omega
     have hci:(c:Int)<q:=by omega
     have hwc:IntKind.i64.wrap ((c:Int)+1)=(c:Int)+1:=by rw [IntKind.wrap_i64];omega
     generalize endB l x=y at *
     clear HXS
     go_wp2_with fail
     refine ⟨⟨c+1,by go_num,by omega,HN1.out,HN2.out⟩,by simp [intOf];omega⟩
    ·obtain rfl:c=q:=by omega
     have hci:¬ (c:Int)<(c:Int):=by omega
     have HN:RowKit.Hid (e2Rel l w (.int .i64 ((i:Int)-1)) wr):=Hd ⟨i,E.set i (endB l i:Int),rfl,by omega,by rw [List.length_set];exact HEL.out,fun j h1 h2=>by
      rw [List.getD_eq_getElem?_getD,List.getElem?_set]
      by_cases e:i=j
      ·subst e;(rw [if_pos rfl,if_pos (by rw [HEL.out];exact hil)];try rfl)
      ·rw [if_neg e,← List.getD_eq_getElem?_getD];exact HEQ.out j (by omega) h2,by rw [HBB.out,← HKE.out];exact HH2.out,by rw [HBB.out];exact HB2.out⟩
     go_wp2_with fail
     refine ⟨HN.out,by simp [intOf];try omega⟩
  ·obtain rfl:k=0:=by omega
   rw [show (((0:Nat):Int)-1)=-1 by rfl]
   have hEE:E=endsL l:=by
    apply List.ext_getElem (by rw [HEL.out,endsL_length])
    intro j h1 h2
    have h3:=HEQ.out j (by omega) (by have:=HEL.out;omega)
    have h4:=endsL_get (l:=l) (j:=j) (by have:=HEL.out;omega)
    rw [List.getD_eq_getElem?_getD,List.getElem?_eq_getElem h1] at h3
    rw [List.getElem?_eq_getElem h2] at h4
    simp only [Option.getD_some] at h3
    rw [h3];exact (Option.some.inj h4).symm
   subst hEE
   have HX:=Hd (HQ.out (.slice (some ⟨B,0,none⟩) l.length l.length) wr HB.out (owns_block HH.out (Nat.le_refl _) (endsL_length l) hl))
   go_wp2_with fail
   exact HX.out
end Go.Proofs.YtlkheofphafofaaGreatDoor
namespace Go.Proofs.YtlkheofphafofaaGreatDoor
set_option linter.all false
attribute [local irreducible] Calls
open Go.RowKit

set_option maxRecDepth 100000 in
set_option maxHeartbeats 4000000 in
theorem ref_Place (p:Prt) (s:ByteArray) (k:Nat) (w:World) :
  Calls Tryz.prog 78 #[.agg #[.int .u8 (p.1:Int),.int .i64 p.2.1,.string p.2.2],.agg #[.string s,.int .u8 (k:Int)]] w fun e w'=>e=.returned (.bool (p.1 == 26&&decide (p.2.2=s)))∧Below w.heap.size w w':=by
 have HX:=Hd (((Below.refl w.heap.size w).alloc (Nat.le_refl _) (.cells #[.int .u8 (p.1:Int),.int .i64 p.2.1,.string p.2.2] 48)).alloc (by simp) (.cells #[.string s,.int .u8 (k:Int)] 43))
 have HQ:RowKit.Hid (∀ x w',(p.1 == 26&&decide (p.2.2=s))=x→Below w.heap.size w w'→(fun (e:Ending) w'=>e=.returned (.bool (p.1 == 26&&decide (p.2.2=s)))∧Below w.heap.size w w') (.returned (.bool x)) w'):=Hd fun x w' h hb=>⟨by rw [h],hb⟩
 generalize (fun (e:Ending) w'=>e=.returned (.bool (p.1 == 26&&decide (p.2.2=s)))∧Below w.heap.size w w')=Q at *
 obtain ⟨pk,pn,pw⟩:=p
 simp only [] at HX HQ ⊢
 by_cases h1:pk=26
 ·subst h1
  by_cases h2:pw=s
  ·subst h2
   have HZ:=Hd (HQ.out true _ (by simp) HX.out)
   go_enter Tryz.func78,Tryz.ntmps78
   go_wp2_with fail
   exact HZ.out
  ·have g2:(pw.toList == s.toList)=false:=by rw [beq_eq_false_iff_ne];exact pl_bytes_ne h2
   have HZ:=Hd (HQ.out false _ (by simp [h2]) HX.out)
   go_enter Tryz.func78,Tryz.ntmps78
   go_wp2_with fail
   exact HZ.out
 ·have g1:((pk:Int) == 26)=false:=by rw [beq_eq_false_iff_ne];omega
  have HZ:=Hd (HQ.out false _ (by simp [h1]) HX.out)
  clear h1
  go_enter Tryz.func78,Tryz.ntmps78
  go_wp2_with fail
  exact HZ.out
theorem may_val2 {hole k:Nat} (h1:1≤hole) (h5:hole≤5):mayB hole k=(match hole with
  | 1=>decide (26≤k)&&(decide (k≤48)&&k != 38)
  | 2=>k == 26
  | 3=>k == 27
  | 4=>k == 26 || ((decide (28≤k)&&decide (k≤30)) || (k == 35 || (decide (41≤k)&&decide (k≤48))))
  | _=>decide (49≤k)&&(decide (k≤68)&&(k != 62&&k != 64))):=by
 have hh:hole=1∨hole=2∨hole=3∨hole=4∨hole=5:=by omega
 rcases hh with rfl | rfl | rfl | rfl | rfl <;> rfl
set_option maxRecDepth 100000 in
set_option maxHeartbeats 16000000 in
theorem ref_May17 (hole k:Nat) (h1:1≤hole) (h5:hole≤5) (hk:k<256) (w:World) :
  Calls Tryz.prog 23 #[.int .u8 (hole:Int),.int .u8 (k:Int)] w fun e w'=>e=.returned (.bool (mayB hole k))∧w=w':=by
 have HQ:RowKit.Hid (∀ x,mayB hole k=x→(fun (e:Ending) w'=>e=.returned (.bool (mayB hole k))∧w=w') (.returned (.bool x)) w):=Hd fun x h=>⟨by rw [h],rfl⟩
 generalize (fun (e:Ending) w'=>e=.returned (.bool (mayB hole k))∧w=w')=Q at *
 have hh:hole=1∨hole=2∨hole=3∨hole=4∨hole=5:=by omega
 have HV:=Hd (may_val2 (k:=k) h1 h5)
 rcases hh with rfl | rfl | rfl | rfl | rfl
 all_goals
  go_enter Tryz.func23,Tryz.ntmps23
  go_wp2_with fail
  all_goals
   refine HQ.out _ ?_
   rw [HV.out,Bool.eq_iff_iff]
   first
    | (simp;done)
    | (simp;omega)
end Go.Proofs.YtlkheofphafofaaGreatDoor
namespace Go.Proofs.YtlkheofphafofaaGreatDoor
set_option linter.all false
attribute [local irreducible] Calls
attribute [local irreducible] wpStill
open Go.RowKit

def holeI (o:Option Nat):Int:=match o with
 | some h=>(h:Int)
 | none=>-1
def hoRel (f:List Prt) (hs:List Hl) (p:Nat) (w:World) (hv:Value) (wr:World):Prop:=∃ k:Nat,hv=.int .i64 (k:Int)∧k≤hs.length∧(∀ j (hj:j<hs.length),j<k→standsAt f p hs[j]=false)∧Below w.heap.size w wr
theorem hole_here {f:List Prt} {hs:List Hl} {p k:Nat} (hk:k<hs.length) (hn:∀ j (hj:j<hs.length),j<k→standsAt f p hs[j]=false) (h:standsAt f p hs[k]=true):holeI (holeOf f hs p)=(k:Int):=by
 unfold holeOf
 rw [List.findIdx?_eq_some_iff_getElem.2 ⟨hk,h,fun j hj=>by rw [hn j (by omega) hj];decide⟩]
 rfl
theorem hole_none {f:List Prt} {hs:List Hl} {p:Nat} (hn:∀ j (hj:j<hs.length),j<hs.length→standsAt f p hs[j]=false):holeI (holeOf f hs p)=-1:=by
 unfold holeOf
 rw [List.findIdx?_eq_none_iff.2 (fun x hx=>by obtain ⟨j,hj,rfl⟩:=List.mem_iff_getElem.1 hx;exact hn j hj hj)]
 rfl
set_option maxRecDepth 100000 in
set_option maxHeartbeats 8000000 in
theorem ref_Hole (f:List Prt) (hs:List Hl) (hf:f.length≤1048576) (hh:hs.length≤1048576) (p:Nat) (hp:p<f.length) (vf vh:Value) (w:World) (hrf:PartRow w vf f) (hrh:HoleRow w vh hs) :
  Calls Tryz.prog 49 #[vf,vh,.int .i64 (p:Int)] w fun e w'=>e=.returned (.int .i64 (holeI (holeOf f hs p)))∧Below w.heap.size w w':=by
 have HQ:RowKit.Hid (∀ x w',holeI (holeOf f hs p)=x→Below w.heap.size w w'→(fun (e:Ending) w'=>e=.returned (.int .i64 (holeI (holeOf f hs p)))∧Below w.heap.size w w') (.returned (.int .i64 x)) w'):=Hd fun x w' h hb=>⟨by rw [h],hb⟩
 generalize (fun (e:Ending) w'=>e=.returned (.int .i64 (holeI (holeOf f hs p)))∧Below w.heap.size w w')=Q at *
 obtain ⟨af,cf,rfl,hcf⟩:=hrf.slice
 obtain ⟨ah,ch,rfl,hch⟩:=Row.shape hrh
 have HF:=Hd hrf
 have HH:=Hd hrh
 clear hrf hrh
 go_enter Tryz.func49,Tryz.ntmps49
 go_wp2_with fail
 go_loopw [7] (fun hv wr=>hoRel f hs p w hv wr) (fun hv _=>hs.length-(intOf hv).toNat)
 case atStart=>exact ⟨0,rfl,Nat.zero_le _,fun j hj h=>absurd h (by omega),Below.refl _ _⟩
 case round =>
  obtain ⟨k,rfl,hk,hno,hb⟩:=hrel
  have HB:=Hd hb
  have HNO:=Hd hno
  clear hb hno
  by_cases hlt:k<hs.length
  ·obtain ⟨b,off,rfl,_,_,_,hcm⟩:=HH.out.at HB.out (show 0<hs.length by omega)
   obtain ⟨c0,c1⟩:=hcm k hlt
   have hk0:(0:Int)≤(k:Int):=by omega
   have hkl:(k:Int)<hs.length:=by omega
   have hkc:(k:Int)<ch:=by omega
   have HX:RowKit.Hid (standsAt f p hs[k]=false→∀ W,Below w.heap.size w W→hoRel f hs p w (.int .i64 ((k:Int)+1)) W):=Hd fun h W hb=>⟨k+1,by push_cast;rfl,hlt,fun j hj hjk=>by
    by_cases e:j=k
    ·subst e;exact h
    ·exact HNO.out j hj (by omega),hb⟩
   have HY:RowKit.Hid (standsAt f p hs[k]=true→holeI (holeOf f hs p)=(k:Int)):=Hd fun h=>hole_here hlt HNO.out h
   clear hcm
   generalize hs[k]=x at *
   obtain ⟨xs,xk⟩:=x
   simp only [] at c0 c1
   obtain ⟨fb,fo,rfl,_,_,_,hcm⟩:=HF.out.at HB.out (show 0<f.length by omega)
   obtain ⟨d0,d1,d2⟩:=hcm p hp
   have hp0:(0:Int)≤(p:Int):=by omega
   have hpl:(p:Int)<f.length:=by omega
   have hpc:(p:Int)<cf:=by omega
   by_cases hst:isStmt xk=true
   ·have hx:xk=5∨xk=7:=by unfold isStmt at hst;simp at hst;exact hst
    by_cases h50:(f[p]).1=50
    case neg =>
     have hsa:standsAt f p (xs,xk)=false:=by
      unfold standsAt
      rw [if_pos hst,List.getElem?_eq_getElem hp]
      cases f[p+1]? with
      | none=>rfl
      | some y=>simp [h50]
     have HZ:=Hd (HX.out hsa wr.drew.drew HB.out.drew.drew)
     have g50:(((f[p]).1:Int) == 50)=false:=by rw [beq_eq_false_iff_ne];omega
     clear hsa HX HY hcm h50 hst
     rcases hx with rfl | rfl
     all_goals
      go_upto_region 5 with (fail)
      go_still_tail 26,(by kernel_rfl)
      go_wp2_with fail
      go_still_tail 11,(by kernel_rfl)
      go_wp2_with fail
      exact ⟨HZ.out,by simp only [intOf];omega⟩
    by_cases hnx:p+1<f.length
    case neg =>
     have hsa:standsAt f p (xs,xk)=false:=by
      unfold standsAt
      rw [if_pos hst,List.getElem?_eq_getElem hp,List.getElem?_eq_none (by omega)]
     have HZ:=Hd (HX.out hsa wr.drew.drew HB.out.drew.drew)
     have g50:(((f[p]).1:Int) == 50)=true:=by rw [beq_iff_eq];omega
     have hw1:IntKind.i64.wrap ((p:Int)+1)=(p:Int)+1:=by rw [IntKind.wrap_i64];omega
     have g51:¬ (p:Int)+1<f.length:=by omega
     clear hsa HX HY hcm h50 hst
     rcases hx with rfl | rfl
     all_goals
      go_upto_region 5 with (fail)
      go_still_tail 26,(by kernel_rfl)
      go_wp2_with fail
      go_still_tail 11,(by kernel_rfl)
      go_wp2_with fail
      exact ⟨HZ.out,by simp only [intOf];omega⟩
    obtain ⟨n0,n1,n2⟩:=hcm (p+1) hnx
    have hsa:standsAt f p (xs,xk)=((f[p+1]).1 == 26&&decide ((f[p+1]).2.2=xs)):=by
     unfold standsAt
     rw [if_pos hst,List.getElem?_eq_getElem hp,List.getElem?_eq_getElem hnx]
     simp [h50]
    rw [hsa] at HX HY
    have g50:(((f[p]).1:Int) == 50)=true:=by rw [beq_iff_eq];omega
    have hw1:IntKind.i64.wrap ((p:Int)+1)=(p:Int)+1:=by rw [IntKind.wrap_i64];omega
    have g51:(p:Int)+1<f.length:=by omega
    have hq0:(0:Int)≤(p:Int)+1:=by omega
    have hqc:(p:Int)+1<cf:=by omega
    have CP:=Hd (fun W=>ref_Place f[p+1] xs xk W)
    clear hsa hcm h50 hst
    generalize f[p+1]=q at *
    obtain ⟨q1,q2,q3⟩:=q
    simp only [] at n0 n1 n2 CP HX HY
    rcases hx with rfl | rfl
    all_goals
     go_upto_region 5 with (fail)
     go_still_tail 26,(by kernel_rfl)
     go_wp2_with fail
     refine (CP.out _).mono ?_
     rintro e w3 ⟨rfl,hb3⟩
     have HB3:=Hd (bthen HB.out.drew hb3)
     clear hb3 CP c0 c1 d0 d1 d2 n0 n1 n2
     cases hz:(q1 == 26&&decide (q3=xs)) with
     | true =>
      have HZ:=Hd (HQ.out (k:Int) w3 (HY.out hz) HB3.out)
      clear hz HX HY
      go_wp2_with fail
      exact HZ.out
     | false =>
      have HZ:=Hd (HX.out hz w3.drew HB3.out.drew)
      clear hz HX HY
      go_upto_region 7 with (fail)
      go_still_tail 11,(by kernel_rfl)
      go_wp2_with fail
      exact ⟨HZ.out,by simp only [intOf];omega⟩
   have hsa:standsAt f p (xs,xk)=((f[p]).1 == 26&&decide ((f[p]).2.2=xs)):=by
    unfold standsAt
    rw [if_neg hst,List.getElem?_eq_getElem hp]
   rw [hsa] at HX HY
   have g5:((xk:Int) == 5)=false:=by rw [beq_eq_false_iff_ne];intro e;apply hst;unfold isStmt;simp;omega
   have g7:((xk:Int) == 7)=false:=by rw [beq_eq_false_iff_ne];intro e;apply hst;unfold isStmt;simp;omega
   have CP:=Hd (fun W=>ref_Place f[p] xs xk W)
   clear hst hsa hcm
   generalize f[p]=q at *
   obtain ⟨q1,q2,q3⟩:=q
   simp only [] at d0 d1 d2 CP HX HY
   go_upto_region 5 with (fail)
   go_still_tail 26,(by kernel_rfl)
   go_wp2_with fail
   have c0':wr.drew.cell? ⟨b,off+k*2,none⟩=some (.string xs):=c0
   have c1':wr.drew.cell? ⟨b,off+k*2+1,none⟩=some (.int .u8 (xk:Int)):=c1
   have d0':wr.drew.cell? ⟨fb,fo+p*3,none⟩=some (.int .u8 (q1:Int)):=d0
   have d1':wr.drew.cell? ⟨fb,fo+p*3+1,none⟩=some (.int .i64 q2):=d1
   have d2':wr.drew.cell? ⟨fb,fo+p*3+2,none⟩=some (.string q3):=d2
   have HBD:=Hd HB.out.drew
   clear c0 c1 d0 d1 d2
   generalize wr.drew=wd at *
   have HBE:=Hd HBD.out.drew
   go_still_tail 11,(by kernel_rfl)
   go_wp2_with fail
   refine (CP.out _).mono ?_
   rintro e w3 ⟨rfl,hb3⟩
   have HB3:=Hd (bthen HBE.out hb3)
   clear hb3 CP c0' c1' d0' d1' d2'
   cases hz:(q1 == 26&&decide (q3=xs)) with
   | true =>
    have HZ:=Hd (HQ.out (k:Int) w3 (HY.out hz) HB3.out)
    clear hz HX HY
    go_wp2_with fail
    exact HZ.out
   | false =>
    have HZ:=Hd (HX.out hz w3 HB3.out)
    clear hz HX HY
    go_wp2_with fail
    exact ⟨HZ.out,by simp only [intOf];omega⟩
  ·obtain rfl:k=hs.length:=by omega
   have HX:=Hd (HQ.out (-1) wr (hole_none HNO.out) HB.out)
   go_wp2_with fail
   exact HX.out
end Go.Proofs.YtlkheofphafofaaGreatDoor
