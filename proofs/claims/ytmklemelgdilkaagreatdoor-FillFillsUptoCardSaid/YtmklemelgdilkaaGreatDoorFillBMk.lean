/- Layer 20: fill's ends, may, several, stmts, trees, walked. -/
import Derived.Test.YtmklemelgdilkaaGreatDoorCheckBMk
import Derived.Test.YtmklemelgdilkaaGreatDoorTreesFMk
import Derived.Test.YtmklemelgdilkaaGreatDoorTermQMk
import Derived.Test.YtmklemelgdilkaaGreatDoorStillMk
namespace Go.Proofs.YtmklemelgdilkaaGreatDoor
set_option linter.all false
attribute [local irreducible] Calls
open Go.RowKit

set_option maxRecDepth 100000 in
set_option maxHeartbeats 8000000 in
theorem fill_ends (l:List Prt) (hl:l.length≤1000000000) (us:List Nat) (hus:rowsB l=some us) (v:Value) (w:World) (hr:PartRow w v l) :
  Calls Tryz.prog 17 #[v] w (ends2Post l w):=by
 have HQ:RowKit.Hid (∀ v' w',Below w.heap.size w w'→w'.ownsRow w.heap.size 3 1 v' l.length ((endsL l).map (Value.int .i64))→ends2Post l w (.returned v') w'):=Hd fun v' w' h1 h2=>by
  unfold ends2Post;exact ⟨v',rfl,h1,h2⟩
 generalize ends2Post l w=Q at *
 have HR:=Hd hr
 have HU:=Hd hus
 obtain ⟨va,vcap,rfl,hvc⟩:=hr.slice
 clear hr hus
 have hmk:=Tmake_ints l.length hl
 have hwl:IntKind.i64.wrap ((l.length:Int)-1)=(l.length:Int)-1:=by rw [IntKind.wrap_i64];omega
 go_enter Tryz.func17,Tryz.ntmps17
 go_wp2_with fail
 have HK0:RowKit.Hid ((w.alloc (.cells (Array.replicate l.length (Value.int .i64 0)) 3)).heap[w.heap.size]?=some (.cells ((List.replicate l.length (0:Int)).map (Value.int .i64)).toArray 3 (0,0))):=Hd (by
  have:=heap_alloc_new w (.cells (Array.replicate l.length (Value.int .i64 0)) 3)
  rw [this,List.map_replicate,List.toArray_replicate])
 have HB0:RowKit.Hid (Below w.heap.size w (w.alloc (.cells (Array.replicate l.length (Value.int .i64 0)) 3))):=Hd ((Below.refl _ _).alloc (Nat.le_refl _) _)
 generalize w.alloc (.cells (Array.replicate l.length (Value.int .i64 0)) 3)=W0 at *
 generalize hBB:w.heap.size=B at *
 have HBB:=Hd hBB
 clear hBB
 go_loopw [4] (fun j wr=>e2Rel l w j wr) (fun j _=>(intOf j+1).toNat)
 case atStart =>
  refine ⟨l.length,List.replicate l.length 0,rfl,Nat.le_refl _,by simp,fun i h1 h2=>by omega,?_,?_⟩
  ·rw [HBB.out];exact HK0.out
  ·rw [HBB.out];exact HB0.out
 case round =>
  obtain ⟨k,E,rfl,hk,hEl,hEq,hh,hb⟩:=hrel
  rw [HBB.out] at hh hb
  have HB:=Hd hb
  have HH:=Hd hh
  have HEQ:=Hd hEq
  have HEL:=Hd hEl
  have hBlt:B<wr.heap.size:=lt_of_block hh
  clear hb hh hEq hEl
  by_cases hk0:0<k
  ·obtain ⟨i,rfl⟩:∃ i,k=i+1:=⟨k-1,by omega⟩
   rw [show (((i+1:Nat):Int)-1)=(i:Int) by omega]
   have hil:i<l.length:=hk
   obtain ⟨b,off,rfl,_,_,hbl,hcell⟩:=HR.out.at (HBB.out ▸ HB.out) (show 0<l.length by omega)
   obtain ⟨q,hq1,hq2,hq4,hq3⟩:=kids_go HU.out hil
   have c0:wr.cell? ⟨b,off+i*3+1,none⟩=some (.int .i64 (q:Int)):=by rw [(hcell i hil).2.1,hq1]
   have HKI:=Hd hq3
   have HKE:=Hd hq2
   have hi0:(0:Int)≤i:=by omega
   have hil':(i:Int)<l.length:=by omega
   have hic:(i:Int)<vcap:=by omega
   have hwi:IntKind.i64.wrap ((i:Int)+1)=(i:Int)+1:=by rw [IntKind.wrap_i64];omega
   have hwm:IntKind.i64.wrap ((i:Int)-1)=(i:Int)-1:=by rw [IntKind.wrap_i64];omega
   have c1:wr.cell? ⟨B,i,none⟩=some (.int .i64 (E.getD i 0)):=by
    simp [World.cell?,HH.out,HEL.out,hil,List.getD_eq_getElem?_getD]
   have z1:wr.frozen? ⟨B,i,none⟩=false:=by simp [World.frozen?,HH.out]
   have hbB:b≠B:=by have:=HBB.out;omega
   have c0':(wr.setCell ⟨B,i,none⟩ (.int .i64 ((i:Int)+1))).cell? ⟨b,off+i*3+1,none⟩=some (.int .i64 (q:Int)):=by
    rw [Tcell_setCell_ne (by exact hbB)];exact c0
   have HAT:RowKit.Hid (e2In l w E i q (.int .i64 0) (wr.setCell ⟨B,i,none⟩ (.int .i64 ((i:Int)+1)))):=Hd ⟨0,rfl,Nat.zero_le _,by
    rw [HBB.out,heap_setCell_same _ _ _ _ _ _ HH.out,List.setIfInBounds_toArray,← List.map_set];rfl,by
    rw [HBB.out];exact HB.out.setCell (p:=⟨B,i,none⟩) (Nat.le_refl _) _⟩
   clear hcell hq1 hq2 hq3 hk0 c0 hbB
   go_wp2_with fail
   clear c1 z1 c0'
   go_loopw [25] (fun cv wx=>e2In l w E i q cv wx) (fun cv _=>q-(intOf cv).toNat)
   case atStart=>exact HAT.out
   case round =>
    obtain ⟨c,rfl,hcq,hh2,hb2⟩:=hrel
    rw [HBB.out] at hh2 hb2
    have HH2:=Hd hh2
    have HB2:=Hd hb2
    clear hh2 hb2 HAT
    by_cases hlt:c<q
    ·obtain ⟨x1,x2⟩:=HKI.out c hlt
     have HXS:=Hd (kidAt_snoc l c (i+1))
     generalize kidAt l c (i+1)=x at *
     have d1:wr.cell? ⟨B,i,none⟩=some (.int .i64 (x:Int)):=by
      simp [World.cell?,HH2.out,HEL.out,hil]
     have d2:wr.cell? ⟨B,x,none⟩=some (.int .i64 (endB l x:Int)):=by
      have:=HEQ.out x (by omega) x2
      rw [List.getD_eq_getElem?_getD] at this
      simp only [World.cell?,HH2.out]
      rw [← this]
      simp [HEL.out,x2,show ¬ i=x by omega]
     have d3:wr.frozen? ⟨B,i,none⟩=false:=by simp [World.frozen?,HH2.out]
     have HN1:RowKit.Hid ((wr.setCell ⟨B,i,none⟩ (.int .i64 (endB l x:Int))).heap[w.heap.size]?=some (.cells ((E.set i (kidAt l (c+1) (i+1):Int)).map (Value.int .i64)).toArray 3 (0,0))):=Hd (by
      rw [HBB.out,HXS.out,heap_setCell_same _ _ _ _ _ _ HH2.out,List.setIfInBounds_toArray,← List.map_set,List.set_set])
     have HN2:RowKit.Hid (Below w.heap.size w (wr.setCell ⟨B,i,none⟩ (.int .i64 (endB l x:Int)))):=Hd (by
      rw [HBB.out];exact HB2.out.setCell (p:=⟨B,i,none⟩) (Nat.le_refl _) _)
     have hx0:(0:Int)≤(x:Int):=by omega
     have hxl:(x:Int)<l.length:=by omega
     have hci:(c:Int)<q:=by omega
     have hwc:IntKind.i64.wrap ((c:Int)+1)=(c:Int)+1:=by rw [IntKind.wrap_i64];omega
     generalize endB l x=y at *
     clear HXS
     go_wp2_with fail
     refine ⟨⟨c+1,by go_num,by omega,HN1.out,HN2.out⟩,by simp [intOf];omega⟩
    ·obtain rfl:c=q:=by omega
     have hci:¬ (c:Int)<(c:Int):=by omega
     have HN:RowKit.Hid (e2Rel l w (.int .i64 ((i:Int)-1)) wr):=Hd ⟨i,E.set i (endB l i:Int),rfl,by omega,by rw [List.length_set];exact HEL.out,fun j h1 h2=>by
      rw [List.getD_eq_getElem?_getD,List.getElem?_set]
      by_cases e:i=j
      ·subst e;(rw [if_pos rfl,if_pos (by rw [HEL.out];exact hil)];try rfl)
      ·rw [if_neg e,← List.getD_eq_getElem?_getD];exact HEQ.out j (by omega) h2,by rw [HBB.out,← HKE.out];exact HH2.out,by rw [HBB.out];exact HB2.out⟩
     go_wp2_with fail
     refine ⟨HN.out,by simp [intOf];try omega⟩
  ·obtain rfl:k=0:=by omega
   rw [show (((0:Nat):Int)-1)=-1 by rfl]
   have hEE:E=endsL l:=by
    apply List.ext_getElem (by rw [HEL.out,endsL_length])
    intro j h1 h2
    have h3:=HEQ.out j (by omega) (by have:=HEL.out;omega)
    have h4:=endsL_get (l:=l) (j:=j) (by have:=HEL.out;omega)
    rw [List.getD_eq_getElem?_getD,List.getElem?_eq_getElem h1] at h3
    rw [List.getElem?_eq_getElem h2] at h4
    simp only [Option.getD_some] at h3
    rw [h3];exact (Option.some.inj h4).symm
   subst hEE
   have HX:=Hd (HQ.out (.slice (some ⟨B,0,none⟩) l.length l.length) wr HB.out (owns_block HH.out (Nat.le_refl _) (endsL_length l) hl))
   go_wp2_with fail
   exact HX.out
theorem may_val3 {hole k:Nat} (h1:1≤hole) (h5:hole≤5):mayB hole k=(if hole=1 then decide (26≤k∧k≤48∧k≠38) else if hole=2 then decide (k=26) else if hole=3 then decide (k=27) else if hole=4 then decide (k=26∨(28≤k∧k≤30)∨k=35∨(41≤k∧k≤48)) else decide (49≤k∧k≤68∧k≠62∧k≠64)):=by
 unfold mayB
 by_cases e1:hole=1
 ·rw [if_pos e1,if_pos e1,Bool.eq_iff_iff];simp [and_assoc]
 rw [if_neg e1,if_neg e1]
 by_cases e2:hole=2
 ·rw [if_pos e2,if_pos e2,Bool.eq_iff_iff];simp
 rw [if_neg e2,if_neg e2]
 by_cases e3:hole=3
 ·rw [if_pos e3,if_pos e3,Bool.eq_iff_iff];simp
 rw [if_neg e3,if_neg e3]
 by_cases e4:hole=4
 ·rw [if_pos e4,if_pos e4,Bool.eq_iff_iff];simp [or_assoc]
 rw [if_neg e4,if_neg e4,if_pos (by omega),Bool.eq_iff_iff]
 simp [and_assoc]
set_option maxRecDepth 100000 in
set_option maxHeartbeats 16000000 in
theorem fill_may (hole k:Nat) (h1:1≤hole) (h5:hole≤5) (hk:k<256) (w:World) :
  Calls Tryz.prog 36 #[.int .u8 (hole:Int),.int .u8 (k:Int)] w fun e w'=>e=.returned (.bool (mayB hole k))∧w=w':=by
 have HQ:RowKit.Hid (∀ x,mayB hole k=x→(fun (e:Ending) w'=>e=.returned (.bool (mayB hole k))∧w=w') (.returned (.bool x)) w):=Hd fun x h=>⟨by rw [h],rfl⟩
 generalize (fun (e:Ending) w'=>e=.returned (.bool (mayB hole k))∧w=w')=Q at *
 have hh:hole=1∨hole=2∨hole=3∨hole=4∨hole=5:=by omega
 have HV:=Hd (may_val3 (k:=k) h1 h5)
 clear h1 h5
 rcases hh with rfl | rfl | rfl | rfl | rfl
 all_goals
  go_enter Tryz.func36,Tryz.ntmps36
  go_wp2_with fail
  all_goals
   refine HQ.out _ ?_
   rw [HV.out,Bool.eq_iff_iff]
   first
    | (simp;done)
    | (simp;simp only [beq_iff_eq,beq_eq_false_iff_ne,ne_eq] at *;omega)
    | (simp;omega)
set_option maxRecDepth 100000 in
set_option maxHeartbeats 4000000 in
theorem fill_several (s:ByteArray) (k:Nat) (w:World) :
  Calls Tryz.prog 35 #[.agg #[.string s,.int .u8 (k:Int)]] w fun e w'=>e=.returned (.bool (isSev k))∧Below w.heap.size w w':=by
 have HX:=Hd ((Below.refl w.heap.size w).alloc (Nat.le_refl _) (.cells #[.string s,.int .u8 (k:Int)] 43))
 have HQ:RowKit.Hid (∀ x w',isSev k=x→Below w.heap.size w w'→(fun (e:Ending) w'=>e=.returned (.bool (isSev k))∧Below w.heap.size w w') (.returned (.bool x)) w'):=Hd fun x w' h hb=>⟨by rw [h],hb⟩
 generalize (fun (e:Ending) w'=>e=.returned (.bool (isSev k))∧Below w.heap.size w w')=Q at *
 by_cases h6:k=6
 ·subst h6
  have HZ:=Hd (HQ.out true _ rfl HX.out)
  go_enter Tryz.func35,Tryz.ntmps35
  go_wp2_with fail
  exact HZ.out
 by_cases h7:k=7
 ·subst h7
  have HZ:=Hd (HQ.out true _ rfl HX.out)
  go_enter Tryz.func35,Tryz.ntmps35
  go_wp2_with fail
  exact HZ.out
 have g6:((k:Int) == 6)=false:=by rw [beq_eq_false_iff_ne];omega
 have g7:((k:Int) == 7)=false:=by rw [beq_eq_false_iff_ne];omega
 have HZ:=Hd (HQ.out false _ (by unfold isSev;simp [h6,h7]) HX.out)
 clear h6 h7
 go_enter Tryz.func35,Tryz.ntmps35
 go_wp2_with fail
 exact HZ.out
set_option maxRecDepth 100000 in
set_option maxHeartbeats 4000000 in
theorem fill_stmts (s:ByteArray) (k:Nat) (w:World) :
  Calls Tryz.prog 55 #[.agg #[.string s,.int .u8 (k:Int)]] w fun e w'=>e=.returned (.bool (isStmt k))∧Below w.heap.size w w':=by
 have HX:=Hd ((Below.refl w.heap.size w).alloc (Nat.le_refl _) (.cells #[.string s,.int .u8 (k:Int)] 43))
 have HQ:RowKit.Hid (∀ x w',isStmt k=x→Below w.heap.size w w'→(fun (e:Ending) w'=>e=.returned (.bool (isStmt k))∧Below w.heap.size w w') (.returned (.bool x)) w'):=Hd fun x w' h hb=>⟨by rw [h],hb⟩
 generalize (fun (e:Ending) w'=>e=.returned (.bool (isStmt k))∧Below w.heap.size w w')=Q at *
 by_cases h5:k=5
 ·subst h5
  have HZ:=Hd (HQ.out true _ rfl HX.out)
  go_enter Tryz.func55,Tryz.ntmps55
  go_wp2_with fail
  exact HZ.out
 by_cases h7:k=7
 ·subst h7
  have HZ:=Hd (HQ.out true _ rfl HX.out)
  go_enter Tryz.func55,Tryz.ntmps55
  go_wp2_with fail
  exact HZ.out
 have g5:((k:Int) == 5)=false:=by rw [beq_eq_false_iff_ne];omega
 have g7:((k:Int) == 7)=false:=by rw [beq_eq_false_iff_ne];omega
 have HZ:=Hd (HQ.out false _ (by unfold isStmt;simp [h5,h7]) HX.out)
 clear h5 h7
 go_enter Tryz.func55,Tryz.ntmps55
 go_wp2_with fail
 exact HZ.out
def ftRel (l:List Prt) (a b:Nat) (w:World) (fv nv:Value) (wr:World):Prop:=∃ n:Nat,nv=.int .i64 (n:Int)∧fv=.int .i64 (kidAt l n a:Int)∧(∀ k,k<n→kidAt l k a<b)∧kidAt l n a≤l.length∧a+n≤kidAt l n a∧wr=w
set_option maxRecDepth 100000 in
set_option maxHeartbeats 4000000 in
theorem fill_trees (l:List Prt) (hl:l.length≤1000000000) (us:List Nat) (hus:rowsB l=some us) (v:Value) (a b:Nat) (hab:a≤b) (hb:b≤l.length) (w:World) (hr:RowInts w v .i64 (endsL l)) :
  Calls Tryz.prog 34 #[v,.int .i64 (a:Int),.int .i64 (b:Int)] w fun e w'=>(∃ (n:Nat) (x:Bool),n≤l.length∧e=.returned (.tuple #[.int .i64 (n:Int),.bool x])∧(x=true→treesZ (piece l a b)=(n:Int))∧(x=false→treesZ (piece l a b)=-1))∧w=w':=by
 have HQ:RowKit.Hid (∀ (n:Nat) (x:Bool),n≤l.length→(x=true→treesZ (piece l a b)=(n:Int))→(x=false→treesZ (piece l a b)=-1)→(fun (e:Ending) w'=>(∃ (n:Nat) (x:Bool),n≤l.length∧e=.returned (.tuple #[.int .i64 (n:Int),.bool x])∧(x=true→treesZ (piece l a b)=(n:Int))∧(x=false→treesZ (piece l a b)=-1))∧w=w') (.returned (.tuple #[.int .i64 (n:Int),.bool x])) w):=Hd fun n x h0 h1 h2=>⟨⟨n,x,h0,rfl,h1,h2⟩,rfl⟩
 generalize (fun (e:Ending) w'=>(∃ (n:Nat) (x:Bool),n≤l.length∧e=.returned (.tuple #[.int .i64 (n:Int),.bool x])∧(x=true→treesZ (piece l a b)=(n:Int))∧(x=false→treesZ (piece l a b)=-1))∧w=w')=Q at *
 have HU:=Hd hus
 obtain ⟨ea,ec,rfl,hec,_⟩:=hr.open'
 have hel:=endsL_length l
 have HR:=Hd hr
 rw [hel]
 rw [hel] at hec
 clear hr hus
 go_enter Tryz.func34,Tryz.ntmps34
 go_wp2_with fail
 go_loopw [1,8] (fun fv nv wr=>ftRel l a b w fv nv wr) (fun fv _ _=>b-(intOf fv).toNat)
 case atStart=>exact ⟨0,rfl,rfl,fun k hk=>absurd hk (Nat.not_lt_zero _),by show a≤_;omega,Nat.le_refl _,rfl⟩
 case round =>
  obtain ⟨n,rfl,rfl,hlt,hle,han,rfl⟩:=hrel
  have HLT:=Hd hlt
  by_cases hfb:kidAt l n a<b
  ·obtain ⟨eb,eo,rfl,_,_,hcell⟩:=ints_at HR.out (Below.refl _ _) (by rw [hel];omega)
   have c0:=hcell _ _ (endsL_get (l:=l) (j:=kidAt l n a) (by omega))
   have hk:=endB_kid HU.out (a:=a) (n:=n) (by omega)
   have HX:RowKit.Hid (ftRel l a b wr (.int .i64 (kidAt l (n+1) a:Int)) (.int .i64 ((n:Int)+1)) wr):=Hd ⟨n+1,by push_cast;rfl,rfl,fun k hk2=>by
    by_cases e:k=n
    ·subst e;exact hfb
    ·exact HLT.out k (by omega),hk.2,by omega,rfl⟩
   rw [kidAt_snoc] at HX hk
   have hf0:(0:Int)≤(kidAt l n a:Int):=by omega
   have hfl:(kidAt l n a:Int)<l.length:=by omega
   have hfc:(kidAt l n a:Int)<(ec:Int):=by omega
   have hfb':(kidAt l n a:Int)<(b:Int):=by omega
   have hwn:IntKind.i64.wrap ((n:Int)+1)=(n:Int)+1:=by rw [IntKind.wrap_i64];omega
   have HMS:RowKit.Hid (b-endB l (kidAt l n a)<b-kidAt l n a):=Hd (by omega)
   clear hcell hk hlt hle
   generalize endB l (kidAt l n a)=z at *
   generalize kidAt l n a=f at *
   go_wp2_with fail
   exact ⟨HX.out,by have:=HMS.out;simp only [intOf];omega⟩
  ·have hg:=trees_go HU.out hab hb hlt (by omega)
   have hfb':¬ (kidAt l n a:Int)<(b:Int):=by omega
   by_cases e:kidAt l n a=b
   ·have HX:=Hd (HQ.out n true (by omega) (fun _=>hg.1 e) (fun h=>by cases h))
    rw [e]
    rw [e] at hfb'
    clear hg hlt hle e
    go_wp2_with fail
    exact HX.out
   ·have HX:=Hd (HQ.out n false (by omega) (fun h=>by cases h) (fun _=>hg.2 e))
    have g1:((kidAt l n a:Int) == (b:Int))=false:=by rw [beq_eq_false_iff_ne];omega
    clear hg hlt hle
    generalize kidAt l n a=f at *
    go_wp2_with fail
    exact HX.out
end Go.Proofs.YtmklemelgdilkaaGreatDoor
namespace Go.Proofs.YtmklemelgdilkaaGreatDoor
set_option linter.all false
attribute [local irreducible] Calls
attribute [local irreducible] wpStill
open Go.RowKit

def holeI (o:Option Nat):Int:=match o with
 | some h=>(h:Int)
 | none=>-1
def hoRel (f:List Prt) (hs:List Hl) (p:Nat) (w:World) (hv:Value) (wr:World):Prop:=∃ k:Nat,hv=.int .i64 (k:Int)∧k≤hs.length∧(∀ j (hj:j<hs.length),j<k→standsAt f p hs[j]=false)∧Below w.heap.size w wr
theorem hole_here {f:List Prt} {hs:List Hl} {p k:Nat} (hk:k<hs.length) (hn:∀ j (hj:j<hs.length),j<k→standsAt f p hs[j]=false) (h:standsAt f p hs[k]=true):holeI (holeOf f hs p)=(k:Int):=by
 unfold holeOf
 rw [List.findIdx?_eq_some_iff_getElem.2 ⟨hk,h,fun j hj=>by rw [hn j (by omega) hj];decide⟩]
 rfl
theorem hole_none {f:List Prt} {hs:List Hl} {p:Nat} (hn:∀ j (hj:j<hs.length),j<hs.length→standsAt f p hs[j]=false):holeI (holeOf f hs p)=-1:=by
 unfold holeOf
 rw [List.findIdx?_eq_none_iff.2 (fun x hx=>by obtain ⟨j,hj,rfl⟩:=List.mem_iff_getElem.1 hx;exact hn j hj hj)]
 rfl
set_option maxRecDepth 100000 in
set_option maxHeartbeats 8000000 in
theorem ref_Hole (f:List Prt) (hs:List Hl) (hf:f.length≤1048576) (hh:hs.length≤1048576) (p:Nat) (hp:p<f.length) (vf vh:Value) (w:World) (hrf:PartRow w vf f) (hrh:HoleRow w vh hs) :
  Calls Tryz.prog 57 #[vf,vh,.int .i64 (p:Int)] w fun e w'=>e=.returned (.int .i64 (holeI (holeOf f hs p)))∧Below w.heap.size w w':=by
 have HQ:RowKit.Hid (∀ x w',holeI (holeOf f hs p)=x→Below w.heap.size w w'→(fun (e:Ending) w'=>e=.returned (.int .i64 (holeI (holeOf f hs p)))∧Below w.heap.size w w') (.returned (.int .i64 x)) w'):=Hd fun x w' h hb=>⟨by rw [h],hb⟩
 generalize (fun (e:Ending) w'=>e=.returned (.int .i64 (holeI (holeOf f hs p)))∧Below w.heap.size w w')=Q at *
 obtain ⟨af,cf,rfl,hcf⟩:=hrf.slice
 obtain ⟨ah,ch,rfl,hch⟩:=Row.shape hrh
 have HF:=Hd hrf
 have HH:=Hd hrh
 clear hrf hrh
 go_enter Tryz.func57,Tryz.ntmps57
 go_wp2_with fail
 go_loopw [7] (fun hv wr=>hoRel f hs p w hv wr) (fun hv _=>hs.length-(intOf hv).toNat)
 case atStart=>exact ⟨0,rfl,Nat.zero_le _,fun j hj h=>absurd h (by omega),Below.refl _ _⟩
 case round =>
  obtain ⟨k,rfl,hk,hno,hb⟩:=hrel
  have HB:=Hd hb
  have HNO:=Hd hno
  clear hb hno
  by_cases hlt:k<hs.length
  ·obtain ⟨b,off,rfl,_,_,_,hcm⟩:=HH.out.at HB.out (show 0<hs.length by omega)
   obtain ⟨c0,c1⟩:=hcm k hlt
   have hk0:(0:Int)≤(k:Int):=by omega
   have hkl:(k:Int)<hs.length:=by omega
   have hkc:(k:Int)<ch:=by omega
   have HX:RowKit.Hid (standsAt f p hs[k]=false→∀ W,Below w.heap.size w W→hoRel f hs p w (.int .i64 ((k:Int)+1)) W):=Hd fun h W hb=>⟨k+1,by push_cast;rfl,hlt,fun j hj hjk=>by
    by_cases e:j=k
    ·subst e;exact h
    ·exact HNO.out j hj (by omega),hb⟩
   have HY:RowKit.Hid (standsAt f p hs[k]=true→holeI (holeOf f hs p)=(k:Int)):=Hd fun h=>hole_here hlt HNO.out h
   clear hcm
   generalize hs[k]=x at *
   obtain ⟨xs,xk⟩:=x
   simp only [] at c0 c1
   obtain ⟨fb,fo,rfl,_,_,_,hcm⟩:=HF.out.at HB.out (show 0<f.length by omega)
   obtain ⟨d0,d1,d2⟩:=hcm p hp
   have hp0:(0:Int)≤(p:Int):=by omega
   have hpl:(p:Int)<f.length:=by omega
   have hpc:(p:Int)<cf:=by omega
   by_cases hst:isStmt xk=true
   ·have hx:xk=5∨xk=7:=by unfold isStmt at hst;simp at hst;exact hst
    by_cases h50:(f[p]).1=50
    case neg =>
     have hsa:standsAt f p (xs,xk)=false:=by
      unfold standsAt
      rw [if_pos hst,List.getElem?_eq_getElem hp]
      cases f[p+1]? with
      | none=>rfl
      | some y=>simp [h50]
     have HZ:=Hd (HX.out hsa wr.drew.drew HB.out.drew.drew)
     have g50:(((f[p]).1:Int) == 50)=false:=by rw [beq_eq_false_iff_ne];omega
     clear hsa HX HY hcm h50 hst
     rcases hx with rfl | rfl
     all_goals
      go_upto_region 5 with (fail)
      go_still_tail 26,(by kernel_rfl)
      go_wp2_with fail
      go_still_tail 11,(by kernel_rfl)
      go_wp2_with fail
      exact ⟨HZ.out,by simp only [intOf];omega⟩
    by_cases hnx:p+1<f.length
    case neg =>
     have hsa:standsAt f p (xs,xk)=false:=by
      unfold standsAt
      rw [if_pos hst,List.getElem?_eq_getElem hp,List.getElem?_eq_none (by omega)]
     have HZ:=Hd (HX.out hsa wr.drew.drew HB.out.drew.drew)
     have g50:(((f[p]).1:Int) == 50)=true:=by rw [beq_iff_eq];omega
     have hw1:IntKind.i64.wrap ((p:Int)+1)=(p:Int)+1:=by rw [IntKind.wrap_i64];omega
     have g51:¬ (p:Int)+1<f.length:=by omega
     clear hsa HX HY hcm h50 hst
     rcases hx with rfl | rfl
     all_goals
      go_upto_region 5 with (fail)
      go_still_tail 26,(by kernel_rfl)
      go_wp2_with fail
      go_still_tail 11,(by kernel_rfl)
      go_wp2_with fail
      exact ⟨HZ.out,by simp only [intOf];omega⟩
    obtain ⟨n0,n1,n2⟩:=hcm (p+1) hnx
    have hsa:standsAt f p (xs,xk)=((f[p+1]).1 == 26&&decide ((f[p+1]).2.2=xs)):=by
     unfold standsAt
     rw [if_pos hst,List.getElem?_eq_getElem hp,List.getElem?_eq_getElem hnx]
     simp [h50]
    rw [hsa] at HX HY
    have g50:(((f[p]).1:Int) == 50)=true:=by rw [beq_iff_eq];omega
    have hw1:IntKind.i64.wrap ((p:Int)+1)=(p:Int)+1:=by rw [IntKind.wrap_i64];omega
    have g51:(p:Int)+1<f.length:=by omega
    have hq0:(0:Int)≤(p:Int)+1:=by omega
    have hqc:(p:Int)+1<cf:=by omega
    have CP:=Hd (fun W=>ref_Place f[p+1] xs xk W)
    clear hsa hcm h50 hst
    generalize f[p+1]=q at *
    obtain ⟨q1,q2,q3⟩:=q
    simp only [] at n0 n1 n2 CP HX HY
    rcases hx with rfl | rfl
    all_goals
     go_upto_region 5 with (fail)
     go_still_tail 26,(by kernel_rfl)
     go_wp2_with fail
     refine (CP.out _).mono ?_
     rintro e w3 ⟨rfl,hb3⟩
     have HB3:=Hd (bthen HB.out.drew hb3)
     clear hb3 CP c0 c1 d0 d1 d2 n0 n1 n2
     cases hz:(q1 == 26&&decide (q3=xs)) with
     | true =>
      have HZ:=Hd (HQ.out (k:Int) w3 (HY.out hz) HB3.out)
      clear hz HX HY
      go_wp2_with fail
      exact HZ.out
     | false =>
      have HZ:=Hd (HX.out hz w3.drew HB3.out.drew)
      clear hz HX HY
      go_upto_region 7 with (fail)
      go_still_tail 11,(by kernel_rfl)
      go_wp2_with fail
      exact ⟨HZ.out,by simp only [intOf];omega⟩
   have hsa:standsAt f p (xs,xk)=((f[p]).1 == 26&&decide ((f[p]).2.2=xs)):=by
    unfold standsAt
    rw [if_neg hst,List.getElem?_eq_getElem hp]
   rw [hsa] at HX HY
   have g5:((xk:Int) == 5)=false:=by rw [beq_eq_false_iff_ne];intro e;apply hst;unfold isStmt;simp;omega
   have g7:((xk:Int) == 7)=false:=by rw [beq_eq_false_iff_ne];intro e;apply hst;unfold isStmt;simp;omega
   have CP:=Hd (fun W=>ref_Place f[p] xs xk W)
   clear hst hsa hcm
   generalize f[p]=q at *
   obtain ⟨q1,q2,q3⟩:=q
   simp only [] at d0 d1 d2 CP HX HY
   go_upto_region 5 with (fail)
   go_still_tail 26,(by kernel_rfl)
   go_wp2_with fail
   have c0':wr.drew.cell? ⟨b,off+k*2,none⟩=some (.string xs):=c0
   have c1':wr.drew.cell? ⟨b,off+k*2+1,none⟩=some (.int .u8 (xk:Int)):=c1
   have d0':wr.drew.cell? ⟨fb,fo+p*3,none⟩=some (.int .u8 (q1:Int)):=d0
   have d1':wr.drew.cell? ⟨fb,fo+p*3+1,none⟩=some (.int .i64 q2):=d1
   have d2':wr.drew.cell? ⟨fb,fo+p*3+2,none⟩=some (.string q3):=d2
   have HBD:=Hd HB.out.drew
   clear c0 c1 d0 d1 d2
   generalize wr.drew=wd at *
   have HBE:=Hd HBD.out.drew
   go_still_tail 11,(by kernel_rfl)
   go_wp2_with fail
   refine (CP.out _).mono ?_
   rintro e w3 ⟨rfl,hb3⟩
   have HB3:=Hd (bthen HBE.out hb3)
   clear hb3 CP c0' c1' d0' d1' d2'
   cases hz:(q1 == 26&&decide (q3=xs)) with
   | true =>
    have HZ:=Hd (HQ.out (k:Int) w3 (HY.out hz) HB3.out)
    clear hz HX HY
    go_wp2_with fail
    exact HZ.out
   | false =>
    have HZ:=Hd (HX.out hz w3 HB3.out)
    clear hz HX HY
    go_wp2_with fail
    exact ⟨HZ.out,by simp only [intOf];omega⟩
  ·obtain rfl:k=hs.length:=by omega
   have HX:=Hd (HQ.out (-1) wr (hole_none HNO.out) HB.out)
   go_wp2_with fail
   exact HX.out
end Go.Proofs.YtmklemelgdilkaaGreatDoor
namespace Go.Proofs.YtmklemelgdilkaaGreatDoor
set_option linter.all false
attribute [local irreducible] Calls
open Go.RowKit

@[irreducible] def fupsPost (l:List Prt) (w0:World) (e:Ending) (w':World):Prop :=
 ∃ v,e=.returned v∧Below w0.heap.size w0 w'∧w'.ownsRow w0.heap.size 3 1 v l.length (((List.range l.length).map (upN l)).map (Value.int .i64))
def fupRel (l:List Prt) (w:World) (iv:Value) (wr:World):Prop:=∃ i:Nat,iv=.int .i64 (i:Int)∧i≤l.length∧wr.heap[w.heap.size]?=some (.cells ((upsE l i (i+1)).map (Value.int .i64)).toArray 3 (0,0))∧Below w.heap.size w wr
def fupKid (l:List Prt) (i:Nat) (w:World) (kv:Value) (wr:World):Prop:=∃ n:Nat,kv=.int .i64 (kidAt l n (i+1):Int)∧(∀ m,m<n→kidAt l m (i+1)<endB l i)∧kidAt l n (i+1)≤l.length∧wr.heap[w.heap.size]?=some (.cells ((upsE l i (kidAt l n (i+1))).map (Value.int .i64)).toArray 3 (0,0))∧Below w.heap.size w wr
set_option maxRecDepth 100000 in
set_option maxHeartbeats 8000000 in
theorem fill_ups (l:List Prt) (hl:l.length≤1000000000) (hw:wellB l=true) (vl ve:Value) (w:World) (hlr:PartRow w vl l) (her:RowInts w ve .i64 (endsL l)) :
  Calls Tryz.prog 18 #[vl,ve] w (fupsPost l w):=by
 have HQ:RowKit.Hid (∀ v' w',Below w.heap.size w w'→w'.ownsRow w.heap.size 3 1 v' l.length (((List.range l.length).map (upN l)).map (Value.int .i64))→fupsPost l w (.returned v') w'):=Hd fun v' w' h1 h2=>by
  unfold fupsPost;exact ⟨v',rfl,h1,h2⟩
 generalize fupsPost l w=Q at *
 have HU:=Hd (well_rows hw)
 have h0:=(well_zero hw).1
 have HS:=Hd (upsE_start' hw)
 have hel:=endsL_length l
 have HR:=Hd her
 obtain ⟨va,vcap,rfl,hvc⟩:=hlr.slice
 obtain ⟨ea,ec,rfl,hec,hop⟩:=her.open'
 rw [hel] at hec
 obtain ⟨eb,eo,rfl,heb,y3⟩:=hop (by rw [hel];omega)
 clear y3 hlr her hw hop
 have hmk:=Tmake_ints l.length hl
 rw [hel] at HR
 rw [hel]
 go_enter Tryz.func18,Tryz.ntmps18
 have h00:(0:Int)<l.length:=by omega
 have HZ1:RowKit.Hid ((w.alloc (.cells ((Array.replicate l.length (Value.int .i64 0)).setIfInBounds 0 (.int .i64 (-1))) 3)).heap[w.heap.size]?=some (.cells ((upsE l 0 (0+1)).map (Value.int .i64)).toArray 3 (0,0))):=Hd (by
  rw [HS.out,heap_alloc_new,List.map_set,List.map_replicate,← List.setIfInBounds_toArray,List.toArray_replicate])
 have HZ2:RowKit.Hid (Below w.heap.size w (w.alloc (.cells ((Array.replicate l.length (Value.int .i64 0)).setIfInBounds 0 (.int .i64 (-1))) 3))):=Hd ((Below.refl _ _).alloc (Nat.le_refl _) _)
 have z0:(w.alloc (.cells (Array.replicate l.length (Value.int .i64 0)) 3)).cell? ⟨w.heap.size,0,none⟩=some (.int .i64 0):=by
  rw [World.cell?_alloc_at _ _ _ _ rfl];simp [h0]
 have z1:(w.alloc (.cells (Array.replicate l.length (Value.int .i64 0)) 3)).frozen? ⟨w.heap.size,0,none⟩=false:=by
  unfold World.frozen?
  rw [heap_alloc_new]
  rfl
 go_wp2_with fail
 clear z0 z1
 generalize w.alloc (.cells ((Array.replicate l.length (Value.int .i64 0)).setIfInBounds 0 (.int .i64 (-1))) 3)=W0 at *
 generalize hBB:w.heap.size=B at *
 have HBB:=Hd hBB
 clear hBB
 go_loopw [15] (fun iv wr=>fupRel l w iv wr) (fun iv _=>l.length-(intOf iv).toNat)
 case atStart=>exact ⟨0,rfl,Nat.zero_le _,by rw [HBB.out];exact HZ1.out,by rw [HBB.out];exact HZ2.out⟩
 case round =>
  obtain ⟨i,rfl,hi,hh,hb⟩:=hrel
  rw [HBB.out] at hh hb
  have HH:=Hd hh
  have HB:=Hd hb
  clear hh hb
  by_cases hlt:i<l.length
  case neg =>
   obtain rfl:i=l.length:=by omega
   have HX:=Hd (HQ.out (.slice (some ⟨B,0,none⟩) l.length l.length) wr HB.out (owns_block (by rw [← upsE_end];exact HH.out) (Nat.le_refl _) (by simp) hl))
   go_wp2_with fail
   exact HX.out
  have hi0:(0:Int)≤(i:Int):=by omega
  have hil:(i:Int)<l.length:=by omega
  have hic:(i:Int)<ec:=by omega
  have hwi:IntKind.i64.wrap ((i:Int)+1)=(i:Int)+1:=by rw [IntKind.wrap_i64];omega
  have hgi:=endB_gt HU.out hlt
  have HAT:RowKit.Hid (fupKid l i w (.int .i64 ((i:Int)+1)) wr):=Hd ⟨0,by show _=Value.int .i64 (((i+1:Nat)):Int);push_cast;rfl,fun m hm=>absurd hm (Nat.not_lt_zero _),hlt,by rw [HBB.out];exact HH.out,by rw [HBB.out];exact HB.out⟩
  go_wp2_with fail
  go_loopw [7] (fun kv wx=>fupKid l i w kv wx) (fun kv _=>endB l i-(intOf kv).toNat)
  case atStart=>exact HAT.out
  case round =>
   obtain ⟨n,rfl,hlm,hkl,hh2,hb2⟩:=hrel
   rw [HBB.out] at hh2 hb2
   have HH2:=Hd hh2
   have HB2:=Hd hb2
   have HLM:=Hd hlm
   clear hh2 hb2 HAT hlm
   obtain ⟨b2,o2,e',y1,y2,hcell⟩:=ints_at HR.out (HBB.out ▸ HB2.out) (by rw [hel];omega)
   simp only [Option.some.injEq,Addr.mk.injEq,and_true] at e'
   obtain ⟨rfl,rfl⟩:=e'
   clear y1 y2
   have ci:=hcell _ _ (endsL_get (l:=l) (j:=i) hlt)
   by_cases hke:kidAt l n (i+1)<endB l i
   case neg =>
    have g1:¬ (kidAt l n (i+1):Int)<(endB l i:Int):=by omega
    have HX:RowKit.Hid (fupRel l w (.int .i64 ((i:Int)+1)) wr):=Hd ⟨i+1,by push_cast;rfl,hlt,by rw [HBB.out,← upsE_next HU.out hlt (show endB l i≤kidAt l n (i+1) by omega)];exact HH2.out,by rw [HBB.out];exact HB2.out⟩
    clear hcell hkl hke
    generalize kidAt l n (i+1)=k at *
    generalize endB l i=ei at *
    go_wp2_with fail
    exact ⟨HX.out,by simp only [intOf];omega⟩
   have hall:∀ m,m≤n→kidAt l m (i+1)<endB l i:=fun m hm=>by
    by_cases e:m=n
    ·subst e;exact hke
    ·exact HLM.out m (by omega)
   have hup:=up_kid' HU.out hlt hall
   have hik:=(up_kid HU.out hlt n hall).1
   have ck:=hcell _ _ (endsL_get (l:=l) (j:=kidAt l n (i+1)) (by omega))
   have hkg:=endB_gt HU.out (show kidAt l n (i+1)<l.length by omega)
   have hcB:wr.cell? ⟨B,kidAt l n (i+1),none⟩=some (.int .i64 (upsAt l i (kidAt l n (i+1)) (kidAt l n (i+1)))):=by
    simp [World.cell?,HH2.out,upsE,show kidAt l n (i+1)<l.length by omega]
   have hzB:wr.frozen? ⟨B,kidAt l n (i+1),none⟩=false:=by simp [World.frozen?,HH2.out]
   have hbB:eb≠B:=by have:=HBB.out;omega
   have ck2:(wr.setCell ⟨B,kidAt l n (i+1),none⟩ (.int .i64 (i:Int))).cell? ⟨eb,eo+kidAt l n (i+1),none⟩=some (.int .i64 (endB l (kidAt l n (i+1)):Int)):=by
    rw [Tcell_setCell_ne (by exact hbB)];exact ck
   have HX:RowKit.Hid (fupKid l i w (.int .i64 (endB l (kidAt l n (i+1)):Int)) (wr.setCell ⟨B,kidAt l n (i+1),none⟩ (.int .i64 (i:Int)))):=Hd ⟨n+1,by rw [kidAt_snoc],fun m hm=>hall m (by omega),by rw [kidAt_snoc];exact hkg.2,by
    rw [HBB.out,kidAt_snoc,← upsE_set HU.out hlt hik hke hup,heap_setCell_same _ _ _ _ _ _ HH2.out,List.map_set,List.setIfInBounds_toArray],by rw [HBB.out];exact HB2.out.setCell (p:=⟨B,_,none⟩) (Nat.le_refl _) _⟩
   have hk0:(0:Int)≤(kidAt l n (i+1):Int):=by omega
   have hkl1:(kidAt l n (i+1):Int)<l.length:=by omega
   have hkc1:(kidAt l n (i+1):Int)<ec:=by omega
   have hke1:(kidAt l n (i+1):Int)<(endB l i:Int):=by omega
   have hkm:RowKit.Hid (endB l i-endB l (kidAt l n (i+1))<endB l i-kidAt l n (i+1)):=Hd (by omega)
   generalize upsAt l i (kidAt l n (i+1)) (kidAt l n (i+1))=old at *
   clear hcell hkl hke hall hup hik hkg
   generalize endB l (kidAt l n (i+1))=ek at *
   generalize kidAt l n (i+1)=k at *
   generalize endB l i=ei at *
   go_wp2_with fail
   exact ⟨HX.out,by have:=hkm.out;simp only [intOf];omega⟩
end Go.Proofs.YtmklemelgdilkaaGreatDoor
