/- Layer 20 in plain Lean: trees in a row, counted by their ends. -/
import Derived.Test.YtfalelkfhandfaaGreatDoorStepPMs
import Derived.Test.YtfalelkfhandfaaGreatDoorPackMs
import Derived.Test.YtfalelkfhandfaaGreatDoorRuleVMs
import Derived.Test.YtfalelkfhandfaaGreatDoorTermMs
namespace Go.Proofs.YtfalelkfhandfaaGreatDoor
set_option linter.all false

theorem zYt {l:List Prt} {b:Nat}:∀ {n a:Nat},(∀ k,k<n→zQ l k a<b)→advT l n a b=some (zQ l n a)
 | 0,a,_=>by rw [advT];rfl
 | n+1,a,h=>by
  have h0:a<b:=h 0 (by omega)
  rw [advT,if_pos h0,zQ]
  exact zYt fun k hk=>h (k+1) (by omega)
theorem zYu {l:List Prt} {us:List Nat} (hl:zG l=some us) {a b n:Nat} (hab:a≤b) (hb:b≤l.length) (hlt:∀ k,k<n→zQ l k a<b) (hge:b≤zQ l n a) :
  (zQ l n a=b→yT (piece l a b)=(n:Int))∧(zQ l n a≠b→yT (piece l a b)=-1):=by
 have hn:=zYt hlt
 constructor
 ·intro e
  rw [e] at hn
  obtain ⟨ts,h1,h2⟩:=zGx hl n a b hb hn
  rw [fW h1,h2]
 ·intro e
  unfold yT
  cases h:zG (piece l a b) with
  | none=>rfl
  | some ts =>
   exfalso
   have hpl:=zBy hab hb
   have h1:=zRv hl hb ts (piece l a b) (l.drop b) a h (zGy hab) (by omega)
   rw [hpl,show a+(b-a)=b by omega] at h1
   rcases Nat.lt_trichotomy ts.length n with c | c | c
   ·have:=hlt _ c
    rw [fQ h1] at this
    omega
   ·rw [c] at h1
    exact e (fQ h1)
   ·rw [show ts.length=n+((ts.length-n-1)+1) by omega,jG,hn,Option.bind_some,advT,if_neg (by omega)] at h1
    cases h1
theorem zYv {l:List Prt} {us:List Nat} (hl:zG l=some us) {a n:Nat} (h:zQ l n a<l.length):zQ l n a<zQ l (n+1) a∧zQ l (n+1) a≤l.length:=by
 rw [kK]
 exact zN hl h
end Go.Proofs.YtfalelkfhandfaaGreatDoor
namespace Go.Proofs.YtfalelkfhandfaaGreatDoor
set_option maxRecDepth 100000
set_option maxHeartbeats 32000000
set_option linter.all false
attribute [local irreducible] Calls
open Go.RowKit

theorem zJj (l:List Prt) (hl:l.length≤1000000000) (us:List Nat) (hus:zG l=some us) (v:Value) (w:World) (hr:zD w v l) :
  Calls Tryz.prog 18 #[v] w (ends2Post l w):=by
 have HQ:Hid (∀ v' w',Below w.heap.size w w'→w'.ownsRow w.heap.size 3 1 v' l.length ((endsL l).map (Value.int .i64))→ends2Post l w (.returned v') w'):=Hd fun v' w' h1 h2=>by
  unfold ends2Post;exact ⟨v',rfl,h1,h2⟩
 generalize ends2Post l w=Q at *
 have HR:=Hd hr
 have HU:=Hd hus
 obtain ⟨va,vcap,rfl,hvc⟩:=hr.slice
 clear hr hus
 have hmk:=fD l.length hl
 have hwl:IntKind.i64.wrap ((l.length:Int)-1)=(l.length:Int)-1:=wI (by omega)
 go_enter Tryz.func18,Tryz.ntmps18
 go_wp2_with fail
 have HK0:Hid ((w.alloc (.cells (Array.replicate l.length (Value.int .i64 0)) 3)).heap[w.heap.size]?=some (.cells ((List.replicate l.length (0:Int)).map (Value.int .i64)).toArray 3 (0,0))):=Hd (by
  have:=heap_alloc_new w (.cells (Array.replicate l.length (Value.int .i64 0)) 3)
  rw [this,List.map_replicate,List.toArray_replicate])
 have HB0:Hid (Below w.heap.size w (w.alloc (.cells (Array.replicate l.length (Value.int .i64 0)) 3))):=Hd ((Below.refl _ _).alloc (Nat.le_refl _) _)
 generalize w.alloc (.cells (Array.replicate l.length (Value.int .i64 0)) 3)=W0 at *
 generalize hBB:w.heap.size=B at *
 have HBB:=Hd hBB
 clear hBB
 go_loopw [4] (fun j wr=>e2Rel l w j wr) (fun j _=>(intOf j+1).toNat)
 case atStart =>
  refine ⟨l.length,List.replicate l.length 0,rfl,Nat.le_refl _,by simp,fun i h1 h2=>by omega,?_,?_⟩
  ·rw [HBB.out];exact HK0.out
  ·rw [HBB.out];exact HB0.out
 case round =>
  obtain ⟨k,E,rfl,hk,hEl,hEq,hh,hb⟩:=hrel
  rw [HBB.out] at hh hb
  have HB:=Hd hb
  have HH:=Hd hh
  have HEQ:=Hd hEq
  have HEL:=Hd hEl
  have hBlt:B<wr.heap.size:=lt_of_block hh
  clear hb hh hEq hEl
  by_cases hk0:0<k
  ·obtain ⟨i,rfl⟩:∃ i,k=i+1:=⟨k-1,by omega⟩
   rw [show (((i+1:Nat):Int)-1)=(i:Int) by omega]
   have hil:i<l.length:=hk
   obtain ⟨b,off,rfl,_,_,hbl,hcell⟩:=HR.out.at (HBB.out ▸ HB.out) (show 0<l.length by omega)
   obtain ⟨q,hq1,hq2,hq4,hq3⟩:=zSh HU.out hil
   have c0:wr.cell? ⟨b,off+i*3+1,none⟩=some (.int .i64 (q:Int)):=by rw [(hcell i hil).2.1,hq1]
   have HKI:=Hd hq3
   have HKE:=Hd hq2
   have hi0:(0:Int)≤i:=by omega
   have hil':(i:Int)<l.length:=by omega
   have hic:(i:Int)<vcap:=by omega
   have hwi:IntKind.i64.wrap ((i:Int)+1)=(i:Int)+1:=wI (by omega)
   have hwm:IntKind.i64.wrap ((i:Int)-1)=(i:Int)-1:=wI (by omega)
   have c1:wr.cell? ⟨B,i,none⟩=some (.int .i64 (E.getD i 0)):=by
    simp [World.cell?,HH.out,HEL.out,hil,List.getD_eq_getElem?_getD]
   have z1:wr.frozen? ⟨B,i,none⟩=false:=by simp [World.frozen?,HH.out]
   have hbB:b≠B:=by have:=HBB.out;omega
   have c0':(wr.setCell ⟨B,i,none⟩ (.int .i64 ((i:Int)+1))).cell? ⟨b,off+i*3+1,none⟩=some (.int .i64 (q:Int)):=by
    rw [vX (by exact hbB)];exact c0
   have HAT:Hid (e2In l w E i q (.int .i64 0) (wr.setCell ⟨B,i,none⟩ (.int .i64 ((i:Int)+1)))):=Hd ⟨0,rfl,Nat.zero_le _,by
    rw [HBB.out,heap_setCell_same _ _ _ _ _ _ HH.out,List.setIfInBounds_toArray,← List.map_set];rfl,by
    rw [HBB.out];exact HB.out.setCell (p:=⟨B,i,none⟩) (Nat.le_refl _) _⟩
   clear hcell hq1 hq2 hq3 hk0 c0 hbB
   go_wp2_with fail
   clear c1 z1 c0'
   go_loopw [25] (fun cv wx=>e2In l w E i q cv wx) (fun cv _=>q-(intOf cv).toNat)
   case atStart=>exact HAT.out
   case round =>
    obtain ⟨c,rfl,hcq,hh2,hb2⟩:=hrel
    rw [HBB.out] at hh2 hb2
    have HH2:=Hd hh2
    have HB2:=Hd hb2
    clear hh2 hb2 HAT
    by_cases hlt:c<q
    ·obtain ⟨x1,x2⟩:=HKI.out c hlt
     have HXS:=Hd (kK l c (i+1))
     generalize zQ l c (i+1)=x at *
     have d1:wr.cell? ⟨B,i,none⟩=some (.int .i64 (x:Int)):=by
      simp [World.cell?,HH2.out,HEL.out,hil]
     have d2:wr.cell? ⟨B,x,none⟩=some (.int .i64 (zC l x:Int)):=by
      have:=HEQ.out x (by omega) x2
      rw [List.getD_eq_getElem?_getD] at this
      simp only [World.cell?,HH2.out]
      rw [← this]
      simp [HEL.out,x2,show ¬ i=x by omega]
     have d3:wr.frozen? ⟨B,i,none⟩=false:=by simp [World.frozen?,HH2.out]
     have HN1:Hid ((wr.setCell ⟨B,i,none⟩ (.int .i64 (zC l x:Int))).heap[w.heap.size]?=some (.cells ((E.set i (zQ l (c+1) (i+1):Int)).map (Value.int .i64)).toArray 3 (0,0))):=Hd (by
      rw [HBB.out,HXS.out,heap_setCell_same _ _ _ _ _ _ HH2.out,List.setIfInBounds_toArray,← List.map_set,List.set_set])
     have HN2:Hid (Below w.heap.size w (wr.setCell ⟨B,i,none⟩ (.int .i64 (zC l x:Int)))):=Hd (by
      rw [HBB.out];exact HB2.out.setCell (p:=⟨B,i,none⟩) (Nat.le_refl _) _)
     have hx0:(0:Int)≤(x:Int):=by omega
     have hxl:(x:Int)<l.length:=by omega
     have hci:(c:Int)<q:=by omega
     have hwc:IntKind.i64.wrap ((c:Int)+1)=(c:Int)+1:=wI (by omega)
     generalize zC l x=y at *
     clear HXS
     go_wp2_with fail
     refine ⟨⟨c+1,by go_num,by omega,HN1.out,HN2.out⟩,by simp [intOf];omega⟩
    ·obtain rfl:c=q:=by omega
     have hci:¬ (c:Int)<(c:Int):=by omega
     have HN:Hid (e2Rel l w (.int .i64 ((i:Int)-1)) wr):=Hd ⟨i,E.set i (zC l i:Int),rfl,by omega,by rw [List.length_set];exact HEL.out,fun j h1 h2=>by
      rw [List.getD_eq_getElem?_getD,List.getElem?_set]
      by_cases e:i=j
      ·subst e;(rw [if_pos rfl,if_pos (by rw [HEL.out];exact hil)];try rfl)
      ·rw [if_neg e,← List.getD_eq_getElem?_getD];exact HEQ.out j (by omega) h2,by rw [HBB.out,← HKE.out];exact HH2.out,by rw [HBB.out];exact HB2.out⟩
     go_wp2_with fail
     refine ⟨HN.out,by simp [intOf];try omega⟩
  ·obtain rfl:k=0:=by omega
   rw [show (((0:Nat):Int)-1)=-1 by rfl]
   have hEE:E=endsL l:=by
    apply List.ext_getElem (by rw [HEL.out,xJ])
    intro j h1 h2
    have h3:=HEQ.out j (by omega) (by have:=HEL.out;omega)
    have h4:=jB (l:=l) (j:=j) (by have:=HEL.out;omega)
    rw [List.getD_eq_getElem?_getD,List.getElem?_eq_getElem h1] at h3
    rw [List.getElem?_eq_getElem h2] at h4
    simp only [Option.getD_some] at h3
    rw [h3];exact (Option.some.inj h4).symm
   subst hEE
   have HX:=Hd (HQ.out (.slice (some ⟨B,0,none⟩) l.length l.length) wr HB.out (zGp HH.out (Nat.le_refl _) (xJ l) hl))
   go_wp2_with fail
   exact HX.out
theorem zVm {hole k:Nat} (h1:1≤hole) (h5:hole≤5):mayB hole k=(if hole=1 then decide (26≤k∧k≤48∧k≠38) else if hole=2 then decide (k=26) else if hole=3 then decide (k=27) else if hole=4 then decide (k=26∨(28≤k∧k≤30)∨k=35∨(41≤k∧k≤48)) else decide (49≤k∧k≤68∧k≠62∧k≠64)):=by
 unfold mayB
 by_cases e1:hole=1
 ·rw [if_pos e1,if_pos e1,Bool.eq_iff_iff];simp [and_assoc]
 rw [if_neg e1,if_neg e1]
 by_cases e2:hole=2
 ·rw [if_pos e2,if_pos e2,Bool.eq_iff_iff];simp
 rw [if_neg e2,if_neg e2]
 by_cases e3:hole=3
 ·rw [if_pos e3,if_pos e3,Bool.eq_iff_iff];simp
 rw [if_neg e3,if_neg e3]
 by_cases e4:hole=4
 ·rw [if_pos e4,if_pos e4,Bool.eq_iff_iff];simp [or_assoc]
 rw [if_neg e4,if_neg e4,if_pos (by omega),Bool.eq_iff_iff]
 simp [and_assoc]
theorem zVn (hole k:Nat) (h1:1≤hole) (h5:hole≤5) (hk:k<256) (w:World) :
  Calls Tryz.prog 38 #[.int .u8 (hole:Int),.int .u8 (k:Int)] w fun e w'=>e=.returned (.bool (mayB hole k))∧w=w':=by
 have HQ:Hid (∀ x,mayB hole k=x→(fun (e:Ending) w'=>e=.returned (.bool (mayB hole k))∧w=w') (.returned (.bool x)) w):=Hd fun x h=>⟨by rw [h],rfl⟩
 generalize (fun (e:Ending) w'=>e=.returned (.bool (mayB hole k))∧w=w')=Q at *
 have hh:hole=1∨hole=2∨hole=3∨hole=4∨hole=5:=by omega
 have HV:=Hd (zVm (k:=k) h1 h5)
 clear h1 h5
 rcases hh with rfl | rfl | rfl | rfl | rfl
 all_goals
  go_enter Tryz.func38,Tryz.ntmps38
  go_wp2_with fail
  all_goals
   refine HQ.out _ ?_
   rw [HV.out,Bool.eq_iff_iff]
   first
    | (simp;done)
    | (simp;simp only [beq_iff_eq,beq_eq_false_iff_ne,ne_eq] at *;omega)
    | (simp;omega)
theorem zLe (s:ByteArray) (k:Nat) (w:World) :
  Calls Tryz.prog 37 #[.agg #[.string s,.int .u8 (k:Int)]] w fun e w'=>e=.returned (.bool (isSev k))∧Below w.heap.size w w':=by
 have HX:=Hd ((Below.refl w.heap.size w).alloc (Nat.le_refl _) (.cells #[.string s,.int .u8 (k:Int)] 49))
 have HQ:Hid (∀ x w',isSev k=x→Below w.heap.size w w'→(fun (e:Ending) w'=>e=.returned (.bool (isSev k))∧Below w.heap.size w w') (.returned (.bool x)) w'):=Hd fun x w' h hb=>⟨by rw [h],hb⟩
 generalize (fun (e:Ending) w'=>e=.returned (.bool (isSev k))∧Below w.heap.size w w')=Q at *
 by_cases h6:k=6
 ·subst h6
  have HZ:=Hd (HQ.out true _ rfl HX.out)
  go_enter Tryz.func37,Tryz.ntmps37
  go_wp2_with fail
  exact HZ.out
 by_cases h7:k=7
 ·subst h7
  have HZ:=Hd (HQ.out true _ rfl HX.out)
  go_enter Tryz.func37,Tryz.ntmps37
  go_wp2_with fail
  exact HZ.out
 have g6:((k:Int) == 6)=false:=by rw [beq_eq_false_iff_ne];omega
 have g7:((k:Int) == 7)=false:=by rw [beq_eq_false_iff_ne];omega
 have HZ:=Hd (HQ.out false _ (by unfold isSev;simp [h6,h7]) HX.out)
 clear h6 h7
 go_enter Tryz.func37,Tryz.ntmps37
 go_wp2_with fail
 exact HZ.out
theorem zPw (s:ByteArray) (k:Nat) (w:World) :
  Calls Tryz.prog 63 #[.agg #[.string s,.int .u8 (k:Int)]] w fun e w'=>e=.returned (.bool (vE k))∧Below w.heap.size w w':=by
 have HX:=Hd ((Below.refl w.heap.size w).alloc (Nat.le_refl _) (.cells #[.string s,.int .u8 (k:Int)] 49))
 have HQ:Hid (∀ x w',vE k=x→Below w.heap.size w w'→(fun (e:Ending) w'=>e=.returned (.bool (vE k))∧Below w.heap.size w w') (.returned (.bool x)) w'):=Hd fun x w' h hb=>⟨by rw [h],hb⟩
 generalize (fun (e:Ending) w'=>e=.returned (.bool (vE k))∧Below w.heap.size w w')=Q at *
 by_cases h5:k=5
 ·subst h5
  have HZ:=Hd (HQ.out true _ rfl HX.out)
  go_enter Tryz.func63,Tryz.ntmps63
  go_wp2_with fail
  exact HZ.out
 by_cases h7:k=7
 ·subst h7
  have HZ:=Hd (HQ.out true _ rfl HX.out)
  go_enter Tryz.func63,Tryz.ntmps63
  go_wp2_with fail
  exact HZ.out
 have g5:((k:Int) == 5)=false:=by rw [beq_eq_false_iff_ne];omega
 have g7:((k:Int) == 7)=false:=by rw [beq_eq_false_iff_ne];omega
 have HZ:=Hd (HQ.out false _ (by unfold vE;simp [h5,h7]) HX.out)
 clear h5 h7
 go_enter Tryz.func63,Tryz.ntmps63
 go_wp2_with fail
 exact HZ.out
def ftRel (l:List Prt) (a b:Nat) (w:World) (fv nv:Value) (wr:World):Prop:=∃ n:Nat,nv=.int .i64 (n:Int)∧fv=.int .i64 (zQ l n a:Int)∧(∀ k,k<n→zQ l k a<b)∧zQ l n a≤l.length∧a+n≤zQ l n a∧wr=w
theorem zGq (l:List Prt) (hl:l.length≤1000000000) (us:List Nat) (hus:zG l=some us) (v:Value) (a b:Nat) (hab:a≤b) (hb:b≤l.length) (w:World) (hr:zI w v .i64 (endsL l)) :
  Calls Tryz.prog 36 #[v,.int .i64 (a:Int),.int .i64 (b:Int)] w fun e w'=>(∃ (n:Nat) (x:Bool),n≤l.length∧e=.returned (.tuple #[.int .i64 (n:Int),.bool x])∧(x=true→yT (piece l a b)=(n:Int))∧(x=false→yT (piece l a b)=-1))∧w=w':=by
 have HQ:Hid (∀ (n:Nat) (x:Bool),n≤l.length→(x=true→yT (piece l a b)=(n:Int))→(x=false→yT (piece l a b)=-1)→(fun (e:Ending) w'=>(∃ (n:Nat) (x:Bool),n≤l.length∧e=.returned (.tuple #[.int .i64 (n:Int),.bool x])∧(x=true→yT (piece l a b)=(n:Int))∧(x=false→yT (piece l a b)=-1))∧w=w') (.returned (.tuple #[.int .i64 (n:Int),.bool x])) w):=Hd fun n x h0 h1 h2=>⟨⟨n,x,h0,rfl,h1,h2⟩,rfl⟩
 generalize (fun (e:Ending) w'=>(∃ (n:Nat) (x:Bool),n≤l.length∧e=.returned (.tuple #[.int .i64 (n:Int),.bool x])∧(x=true→yT (piece l a b)=(n:Int))∧(x=false→yT (piece l a b)=-1))∧w=w')=Q at *
 have HU:=Hd hus
 obtain ⟨ea,ec,rfl,hec,_⟩:=hr.open'
 have hel:=xJ l
 have HR:=Hd hr
 rw [hel]
 rw [hel] at hec
 clear hr hus
 go_enter Tryz.func36,Tryz.ntmps36
 go_wp2_with fail
 go_loopw [1,8] (fun fv nv wr=>ftRel l a b w fv nv wr) (fun fv _ _=>b-(intOf fv).toNat)
 case atStart=>exact ⟨0,rfl,rfl,fun k hk=>absurd hk (Nat.not_lt_zero _),by show a≤_;omega,Nat.le_refl _,rfl⟩
 case round =>
  obtain ⟨n,rfl,rfl,hlt,hle,han,rfl⟩:=hrel
  have HLT:=Hd hlt
  by_cases hfb:zQ l n a<b
  ·obtain ⟨eb,eo,rfl,_,_,hcell⟩:=zAz HR.out (Below.refl _ _) (by rw [hel];omega)
   have c0:=hcell _ _ (jB (l:=l) (j:=zQ l n a) (by omega))
   have hk:=zYv HU.out (a:=a) (n:=n) (by omega)
   have HX:Hid (ftRel l a b wr (.int .i64 (zQ l (n+1) a:Int)) (.int .i64 ((n:Int)+1)) wr):=Hd ⟨n+1,by push_cast;rfl,rfl,fun k hk2=>by
    by_cases e:k=n
    ·subst e;exact hfb
    ·exact HLT.out k (by omega),hk.2,by omega,rfl⟩
   rw [kK] at HX hk
   have hf0:(0:Int)≤(zQ l n a:Int):=by omega
   have hfl:(zQ l n a:Int)<l.length:=by omega
   have hfc:(zQ l n a:Int)<(ec:Int):=by omega
   have hfb':(zQ l n a:Int)<(b:Int):=by omega
   have hwn:IntKind.i64.wrap ((n:Int)+1)=(n:Int)+1:=wI (by omega)
   have HMS:Hid (b-zC l (zQ l n a)<b-zQ l n a):=Hd (by omega)
   clear hcell hk hlt hle
   generalize zC l (zQ l n a)=z at *
   generalize zQ l n a=f at *
   go_wp2_with fail
   exact ⟨HX.out,by have:=HMS.out;simp only [intOf];omega⟩
  ·have hg:=zYu HU.out hab hb hlt (by omega)
   have hfb':¬ (zQ l n a:Int)<(b:Int):=by omega
   by_cases e:zQ l n a=b
   ·have HX:=Hd (HQ.out n true (by omega) (fun _=>hg.1 e) (fun h=>by cases h))
    rw [e]
    rw [e] at hfb'
    clear hg hlt hle e
    go_wp2_with fail
    exact HX.out
   ·have HX:=Hd (HQ.out n false (by omega) (fun h=>by cases h) (fun _=>hg.2 e))
    have g1:((zQ l n a:Int) == (b:Int))=false:=by rw [beq_eq_false_iff_ne];omega
    clear hg hlt hle
    generalize zQ l n a=f at *
    go_wp2_with fail
    exact HX.out
end Go.Proofs.YtfalelkfhandfaaGreatDoor
namespace Go.Proofs.YtfalelkfhandfaaGreatDoor
set_option linter.all false

theorem yBf {r:RuleM} (hr:ruleZ r=0) (hg:r.goal=3):zW r.by' r.holes 0=none:=by
 obtain ⟨_,_,_,hb,hk,_,_,_⟩:=zAe hr
 have hk:=hk hg
 have h0:=(xA (vB hb).1).1
 have e:yJ r.by' 0=(r.by'[0]).1:=by unfold yJ;rw [List.getElem?_eq_getElem h0]
 cases ho:zW r.by' r.holes 0 with
 | none=>rfl
 | some h =>
  obtain ⟨hh,hs⟩:=kB ho
  rcases xT hs with ⟨_,_,_,h4,_⟩ | ⟨_,_,h5⟩
  ·omega
  ·have:=(yC h5).1
   omega
theorem zAb {r:RuleM} (hr:ruleZ r=0) (hg:r.goal=3) (l:List Prt) (bs:List Bnd):∃ (x:PN) (M:List PN),madeP r l bs=x::M∧x.1.2.1=(cntP (M.map (·.1)):Int)∧outP r l bs=M:=by
 have hb:=(zAe hr).2.2.2.1
 have h0:=(xA (vB hb).1).1
 have ho:=yBf hr hg
 refine ⟨_,_,(show madeP r l bs=_::_ by unfold madeP fuelZ;exact zCz ho h0),rfl,?_⟩
 unfold outP
 rw [if_pos hg]
 unfold madeP fuelZ
 rw [zCz ho h0]
 rfl
theorem zNy {r:RuleM} (hr:ruleZ r=0) (l:List Prt) (bs:List Bnd):(outP r l bs).length+(if r.goal=3 then 1 else 0)=(madeP r l bs).length:=by
 by_cases hg:r.goal=3
 ·obtain ⟨x,M,h1,_,h2⟩:=zAb hr hg l bs
  rw [h1,h2,if_pos hg];rfl
 ·unfold outP
  rw [if_neg hg,if_neg hg];rfl
theorem zJz {r:RuleM} (hr:ruleZ r=0) {l:List Prt} {bs:List Bnd} (hb:BindsIn bs l) (hv:∀ h,∃ ts,zG (piece l (bOf bs h).1 (bOf bs h).2)=some ts):∃ ts,zG ((outP r l bs).map (·.1))=some ts:=by
 by_cases hg:r.goal=3
 ·obtain ⟨x,M,h1,_,h2⟩:=zAb hr hg l bs
  obtain ⟨ts,h3⟩:=zAq (t:=r.by') (hs:=r.holes) (zBg hb) hv (fuelZ r.by') 0
  have h4:zG ((x::M).map (·.1))=some ts:=by rw [← h1];exact h3
  rw [List.map_cons] at h4
  obtain ⟨us,h5,_⟩:=jW h4
  rw [h2]
  exact ⟨us,h5⟩
 ·unfold outP
  rw [if_neg hg]
  exact zAq (zBg hb) hv _ 0
end Go.Proofs.YtfalelkfhandfaaGreatDoor
namespace Go.Proofs.YtfalelkfhandfaaGreatDoor
set_option linter.all false

section
variable {l:List Prt}
def upsAt (l:List Prt) (i k j:Nat):Int:=if j=0 then -1 else if upN l j<(i:Int)∨(upN l j=(i:Int)∧j<k) then upN l j else 0
def upsE (l:List Prt) (i k:Nat):List Int:=(List.range l.length).map (upsAt l i k)
theorem zMh {i k j:Nat} (h:j<(upsE l i k).length):(upsE l i k)[j]=upsAt l i k j:=by simp [upsE]
theorem zYq {us:List Nat} (hl:zG l=some us) {i k:Nat} (hi:i<l.length) (h1:i<k) (h2:k<zC l i) (hu:upN l k=(i:Int)):(upsE l i k).set k (i:Int)=upsE l i (zC l k):=by
 have hg:=zN hl hi
 have hk:=zN hl (show k<l.length by omega)
 apply List.ext_getElem (by simp [upsE])
 intro j g1 g2
 simp [upsE] at g1
 rw [List.getElem_set,zMh,zMh]
 unfold upsAt
 by_cases e:k=j
 ·subst e
  rw [if_pos rfl,if_neg (by omega),if_pos (Or.inr ⟨hu,hk.1⟩),hu]
 ·rw [if_neg e]
  by_cases j0:j=0
  ·rw [if_pos j0,if_pos j0]
  ·rw [if_neg j0,if_neg j0]
   congr 1
   apply propext
   constructor
   ·rintro (g | ⟨g,g3⟩)
    ·exact Or.inl g
    ·exact Or.inr ⟨g,by omega⟩
   ·rintro (g | ⟨g,g3⟩)
    ·exact Or.inl g
    ·refine Or.inr ⟨g,?_⟩
     apply Classical.byContradiction
     intro hc
     unfold upN at g
     have:=(zEe l g).2.2 k (by omega) (by omega)
     omega
theorem zUr {us:List Nat} (hl:zG l=some us) {i k:Nat} (hi:i<l.length) (h2:zC l i≤k):upsE l i k=upsE l (i+1) (i+1+1):=by
 unfold upsE
 apply List.map_congr_left
 intro j hj
 unfold upsAt
 by_cases j0:j=0
 ·rw [if_pos j0,if_pos j0]
 ·rw [if_neg j0,if_neg j0]
  congr 1
  apply propext
  have key:∀ a:Nat,upN l j=(a:Int)→a<j∧j<zC l a:=fun a g=>by
   unfold upN at g
   have:=zEe l g
   exact ⟨this.1,this.2.1⟩
  constructor
  ·rintro (g | ⟨g,_⟩)
   ·exact Or.inl (by push_cast;omega)
   ·exact Or.inl (by push_cast;omega)
  ·rintro (g | ⟨g,g3⟩)
   ·push_cast at g
    by_cases e:upN l j=(i:Int)
    ·exact Or.inr ⟨e,by have:=(key i e).2;omega⟩
    ·exact Or.inl (by omega)
   ·have:=key (i+1) g
    omega
theorem zPi (hw:zZ l=true):upsE l 0 1=(List.replicate l.length (0:Int)).set 0 (-1):=by
 apply List.ext_getElem (by simp [upsE])
 intro j g1 g2
 simp [upsE] at g1
 rw [List.getElem_set,zMh,List.getElem_replicate]
 unfold upsAt
 by_cases e:0=j
 ·subst e;rfl
 ·rw [if_neg (by omega),if_neg e,if_neg]
  have:=zCu hw g1 j (by omega)
  have:0≤upN l j:=this
  omega
theorem zYr {k:Nat}:upsE l l.length k=(List.range l.length).map (upN l):=by
 unfold upsE
 apply List.map_congr_left
 intro j hj
 rw [List.mem_range] at hj
 unfold upsAt
 by_cases e:j=0
 ·subst e;rfl
 ·rw [if_neg e,if_pos]
  have:=zAd l j
  exact Or.inl (by omega)
theorem zMi {us:List Nat} (hl:zG l=some us) {i:Nat} (hi:i<l.length):∀ n,(∀ m,m≤n→zQ l m (i+1)<zC l i)→i<zQ l n (i+1)∧∀ j,i<j→j<zQ l n (i+1)→zC l j≤zQ l n (i+1)
 | 0,_=>⟨by show i<i+1;omega,fun j h1 h2=>by have:j<i+1:=h2;omega⟩
 | n+1,h=>by
  obtain ⟨h1,h2⟩:=zMi hl hi n (fun m hm=>h m (by omega))
  have hg:=zN hl hi
  have hn:=h n (by omega)
  have hk:=zN hl (show zQ l n (i+1)<l.length by omega)
  rw [kK]
  refine ⟨by omega,fun j g1 g2=>?_⟩
  rcases Nat.lt_trichotomy j (zQ l n (i+1)) with c | c | c
  ·have:=h2 j g1 c;omega
  ·rw [c];exact Nat.le_refl _
  ·exact zIl hl (show zQ l n (i+1)<l.length by omega) (Nat.le_of_lt c) g2
theorem zSj {us:List Nat} (hl:zG l=some us) {i:Nat} (hi:i<l.length) {n:Nat} (h:∀ m,m≤n→zQ l m (i+1)<zC l i):upN l (zQ l n (i+1))=(i:Int):=by
 obtain ⟨h1,h2⟩:=zMi hl hi n h
 exact zYn hl hi h1 (h n (Nat.le_refl _)) h2
end
section
variable (l:List Prt)
def moreL (A:List Mk):List Int:=(List.range l.length).map fun i=>yO l A i
theorem zKu (A:List Mk):(moreL l A).length=l.length:=by simp [moreL]
theorem zDs {A:List Mk} {j:Nat} (h:j<(moreL l A).length):(moreL l A)[j]=yO l A j:=by simp [moreL]
theorem zUs:moreL l []=List.replicate l.length 0:=by
 apply List.ext_getElem (by simp [moreL])
 intro j g1 g2
 simp [moreL,yO]
theorem zBq (x:Nat) (m:List PN) (d:Int) (i:Nat):∀ A:List Mk,yO l (A++[(x,m,d)]) i=yO l A i+(if 0<x∧upN l x=(i:Int) then d else 0)
 | []=>by simp [yO]
 | (y,m',d')::A=>by rw [List.cons_append,yO,yO,zBq x m d i A];omega
theorem zRg (A:List Mk) {x u:Nat} (m:List PN) (d:Int) (hx:0<x) (hu:upN l x=(u:Int)) (hul:u<l.length):moreL l (A++[(x,m,d)])=(moreL l A).set u (yO l A u+d):=by
 apply List.ext_getElem (by simp [moreL])
 intro j g1 g2
 rw [List.getElem_set,zDs,zDs,zBq]
 by_cases e:u=j
 ·subst e;rw [if_pos rfl,if_pos ⟨hx,hu⟩]
 ·rw [if_neg e,if_neg (fun h=>e (by omega))];omega
theorem zUt (A:List Mk) (m:List PN) (d:Int):moreL l (A++[(0,m,d)])=moreL l A:=by
 unfold moreL
 apply List.map_congr_left
 intro j _
 rw [zBq,if_neg (fun h=>by omega)];omega
theorem zCi (i:Nat):∀ A:List Mk,(∀ p∈A,-1≤p.2.2∧p.2.2≤131072)→-((A.length:Int)*131072)≤yO l A i∧yO l A i≤(A.length:Int)*131072
 | [],_=>by simp [yO]
 | (x,m,d)::A,h=>by
  have h1:=h (x,m,d) (by simp)
  have h2:=zCi i A (fun p hp=>h p (by simp [hp]))
  simp only [] at h1
  rw [yO,List.length_cons]
  push_cast
  split <;> omega
def laterS:List Mk→Int
 | []=>0
 | (x,m,_)::P=>(m.length:Int)-((zC l x:Int)-x)+laterS P
theorem jV:∀ (P:List Mk) (a:Nat),laterZ l P a=(l.length:Int)-a+laterS l P
 | [],a=>by rw [laterZ,laterS];omega
 | (x,m,d)::P,a=>by rw [laterZ,laterS,jV P];omega
theorem zIn {α:Type} (L:List α) {n:Nat} (h:n<L.length):L.take (n+1)=L.take n++[L[n]]:=by
 rw [List.take_succ,List.getElem?_eq_getElem h];rfl
end
theorem zCj {r:RuleM} {l:List Prt} {bs:List Bnd} (hr:ruleZ r=0) (hb:rightB r l bs=true) (hv:∀ h,∃ ts,zG (piece l (bOf bs h).1 (bOf bs h).2)=some ts):0≤xX r l bs∧xX r l bs≤(outP r l bs).length:=by
 obtain ⟨ts,h⟩:=zJz hr (jK hb) hv
 unfold xX
 rw [fW h]
 have:=(yM h).2.1
 rw [List.length_map] at this
 omega
end Go.Proofs.YtfalelkfhandfaaGreatDoor
namespace Go.Proofs.YtfalelkfhandfaaGreatDoor
set_option maxRecDepth 100000
set_option maxHeartbeats 32000000
set_option linter.all false
attribute [local irreducible] Calls
open Go.RowKit

theorem zEo (p:Prt) (s:ByteArray) (k:Nat) (w:World) :
  Calls Tryz.prog 94 #[.agg #[.int .u8 (p.1:Int),.int .i64 p.2.1,.string p.2.2],.agg #[.string s,.int .u8 (k:Int)]] w fun e w'=>e=.returned (.bool (p.1 == 26&&decide (p.2.2=s)))∧Below w.heap.size w w':=by
 have HX:=Hd (((Below.refl w.heap.size w).alloc (Nat.le_refl _) (.cells #[.int .u8 (p.1:Int),.int .i64 p.2.1,.string p.2.2] 38)).alloc (by simp) (.cells #[.string s,.int .u8 (k:Int)] 49))
 have HQ:Hid (∀ x w',(p.1 == 26&&decide (p.2.2=s))=x→Below w.heap.size w w'→(fun (e:Ending) w'=>e=.returned (.bool (p.1 == 26&&decide (p.2.2=s)))∧Below w.heap.size w w') (.returned (.bool x)) w'):=Hd fun x w' h hb=>⟨by rw [h],hb⟩
 generalize (fun (e:Ending) w'=>e=.returned (.bool (p.1 == 26&&decide (p.2.2=s)))∧Below w.heap.size w w')=Q at *
 obtain ⟨pk,pn,pw⟩:=p
 simp only [] at HX HQ ⊢
 by_cases h1:pk=26
 ·subst h1
  by_cases h2:pw=s
  ·subst h2
   have HZ:=Hd (HQ.out true _ (by simp) HX.out)
   go_enter Tryz.func94,Tryz.ntmps94
   go_wp2_with fail
   exact HZ.out
  ·have g2:(pw.toList == s.toList)=false:=by rw [beq_eq_false_iff_ne];exact yG h2
   have HZ:=Hd (HQ.out false _ (by simp [h2]) HX.out)
   go_enter Tryz.func94,Tryz.ntmps94
   go_wp2_with fail
   exact HZ.out
 ·have g1:((pk:Int) == 26)=false:=by rw [beq_eq_false_iff_ne];omega
  have HZ:=Hd (HQ.out false _ (by simp [h1]) HX.out)
  clear h1
  go_enter Tryz.func94,Tryz.ntmps94
  go_wp2_with fail
  exact HZ.out
theorem zXp {hole k:Nat} (h1:1≤hole) (h5:hole≤5):mayB hole k=(match hole with
  | 1=>decide (26≤k)&&(decide (k≤48)&&k != 38)
  | 2=>k == 26
  | 3=>k == 27
  | 4=>k == 26 || ((decide (28≤k)&&decide (k≤30)) || (k == 35 || (decide (41≤k)&&decide (k≤48))))
  | _=>decide (49≤k)&&(decide (k≤68)&&(k != 62&&k != 64))):=by
 have hh:hole=1∨hole=2∨hole=3∨hole=4∨hole=5:=by omega
 rcases hh with rfl | rfl | rfl | rfl | rfl <;> rfl
theorem zUl (hole k:Nat) (h1:1≤hole) (h5:hole≤5) (hk:k<256) (w:World) :
  Calls Tryz.prog 47 #[.int .u8 (hole:Int),.int .u8 (k:Int)] w fun e w'=>e=.returned (.bool (mayB hole k))∧w=w':=by
 have HQ:Hid (∀ x,mayB hole k=x→(fun (e:Ending) w'=>e=.returned (.bool (mayB hole k))∧w=w') (.returned (.bool x)) w):=Hd fun x h=>⟨by rw [h],rfl⟩
 generalize (fun (e:Ending) w'=>e=.returned (.bool (mayB hole k))∧w=w')=Q at *
 have hh:hole=1∨hole=2∨hole=3∨hole=4∨hole=5:=by omega
 have HV:=Hd (zXp (k:=k) h1 h5)
 rcases hh with rfl | rfl | rfl | rfl | rfl
 all_goals
  go_enter Tryz.func47,Tryz.ntmps47
  go_wp2_with fail
  all_goals
   refine HQ.out _ ?_
   rw [HV.out,Bool.eq_iff_iff]
   first
    | (simp;done)
    | (simp;omega)
end Go.Proofs.YtfalelkfhandfaaGreatDoor
namespace Go.Proofs.YtfalelkfhandfaaGreatDoor
set_option maxRecDepth 100000
set_option maxHeartbeats 32000000
set_option linter.all false
attribute [local irreducible] Calls
open Go.RowKit

theorem zXo {s:ByteArray} (h0:s.toList≠[38,38]) (h1:s.toList≠[61,61]) (h2:s.toList≠[33,61]) (h3:s.toList≠[60]) (h4:s.toList≠[60,61]) (h5:s.toList≠[62]) (h6:s.toList≠[62,61]) (h7:s.toList≠[43]) (h8:s.toList≠[45]) (h9:s.toList≠[124]) (h10:s.toList≠[94]) (h11:s.toList≠[42]) (h12:s.toList≠[47]) (h13:s.toList≠[37]) (h14:s.toList≠[60,60]) (h15:s.toList≠[62,62]) (h16:s.toList≠[38]) (h17:s.toList≠[38,94]):lvW s=1:=by
 unfold lvW
 split
 ·rfl
 ·split
  ·rename_i h;exfalso;simp only [wL2,List.mem_cons,List.mem_nil_iff,or_false] at h;simp_all
  ·split
   ·rename_i h;exfalso;simp only [wL3,List.mem_cons,List.mem_nil_iff,or_false] at h;simp_all
   ·split
    ·rename_i h;exfalso;simp only [wL4,List.mem_cons,List.mem_nil_iff,or_false] at h;simp_all
    ·split
     ·rename_i h;exfalso;simp only [wL5,List.mem_cons,List.mem_nil_iff,or_false] at h;simp_all
     ·rfl
theorem zKm (p:Prt) (w:World) :
  Calls Tryz.prog 69 #[partA p] w fun e w'=>e=.returned (.int .i64 (yL p:Int))∧Below w.heap.size w w':=by
 have HQ:Hid (∀ x w',(yL p:Int)=x→Below w.heap.size w w'→(fun (e:Ending) w'=>e=.returned (.int .i64 (yL p:Int))∧Below w.heap.size w w') (.returned (.int .i64 x)) w'):=Hd fun x w' h hb=>⟨by rw [h],hb⟩
 generalize (fun (e:Ending) w'=>e=.returned (.int .i64 (yL p:Int))∧Below w.heap.size w w')=Q at *
 obtain ⟨k,n,s⟩:=p
 unfold partA
 simp only [] at HQ ⊢
 have HX:=Hd ((Below.refl w.heap.size w).alloc (Nat.le_refl _) (.cells #[.int .u8 (k:Int),.int .i64 n,.string s] 38))
 by_cases h36:k=36
 ·subst h36
  have HZ:=Hd (HQ.out 6 _ rfl HX.out)
  go_enter Tryz.func69,Tryz.ntmps69
  go_wp2_with fail
  exact HZ.out
 by_cases h35:k=35
 ·subst h35
  have HZ:=Hd (HQ.out 6 _ rfl HX.out)
  go_enter Tryz.func69,Tryz.ntmps69
  go_wp2_with fail
  exact HZ.out
 have g36:((k:Int) == 36)=false:=by rw [beq_eq_false_iff_ne];omega
 have g35:((k:Int) == 35)=false:=by rw [beq_eq_false_iff_ne];omega
 by_cases h37:k=37
 case neg =>
  have g37:((k:Int) == 37)=false:=by rw [beq_eq_false_iff_ne];omega
  have HZ:=Hd (HQ.out 7 _ (by unfold yL;rw [if_neg (by simp;omega),if_neg h37];rfl) HX.out)
  clear h35 h36 h37
  go_enter Tryz.func69,Tryz.ntmps69
  go_wp2_with fail
  exact HZ.out
 subst h37
 rw [show ((37:Nat):Int)=(37:Int) from rfl] at HX ⊢
 have HL:yL (37,n,s)=lvW s:=by unfold yL;rw [if_neg (fun h=>by rcases h with h | h <;> simp at h),if_pos rfl]
 rw [HL] at HQ
 clear h36 h35 g36 g35 HL
 by_cases h0:s=⟨#[38,38]⟩
 ·subst h0
  have HZ:=Hd (HQ.out 2 _ (by rw [show lvW ⟨#[38,38]⟩=2 by decide +kernel];rfl) HX.out)
  go_enter Tryz.func69,Tryz.ntmps69
  go_wp2_with fail
  exact HZ.out
 replace h0:s.toList≠[38,38]:=fun e=>yG h0 (by rw [e];decide +kernel)
 have g0:(s.toList == [38,38])=false:=by rw [beq_eq_false_iff_ne];exact h0
 by_cases h1:s=⟨#[61,61]⟩
 ·subst h1
  have HZ:=Hd (HQ.out 3 _ (by rw [show lvW ⟨#[61,61]⟩=3 by decide +kernel];rfl) HX.out)
  go_enter Tryz.func69,Tryz.ntmps69
  go_wp2_with fail
  exact HZ.out
 replace h1:s.toList≠[61,61]:=fun e=>yG h1 (by rw [e];decide +kernel)
 have g1:(s.toList == [61,61])=false:=by rw [beq_eq_false_iff_ne];exact h1
 by_cases h2:s=⟨#[33,61]⟩
 ·subst h2
  have HZ:=Hd (HQ.out 3 _ (by rw [show lvW ⟨#[33,61]⟩=3 by decide +kernel];rfl) HX.out)
  go_enter Tryz.func69,Tryz.ntmps69
  go_wp2_with fail
  exact HZ.out
 replace h2:s.toList≠[33,61]:=fun e=>yG h2 (by rw [e];decide +kernel)
 have g2:(s.toList == [33,61])=false:=by rw [beq_eq_false_iff_ne];exact h2
 by_cases h3:s=⟨#[60]⟩
 ·subst h3
  have HZ:=Hd (HQ.out 3 _ (by rw [show lvW ⟨#[60]⟩=3 by decide +kernel];rfl) HX.out)
  go_enter Tryz.func69,Tryz.ntmps69
  go_wp2_with fail
  exact HZ.out
 replace h3:s.toList≠[60]:=fun e=>yG h3 (by rw [e];decide +kernel)
 have g3:(s.toList == [60])=false:=by rw [beq_eq_false_iff_ne];exact h3
 by_cases h4:s=⟨#[60,61]⟩
 ·subst h4
  have HZ:=Hd (HQ.out 3 _ (by rw [show lvW ⟨#[60,61]⟩=3 by decide +kernel];rfl) HX.out)
  go_enter Tryz.func69,Tryz.ntmps69
  go_wp2_with fail
  exact HZ.out
 replace h4:s.toList≠[60,61]:=fun e=>yG h4 (by rw [e];decide +kernel)
 have g4:(s.toList == [60,61])=false:=by rw [beq_eq_false_iff_ne];exact h4
 by_cases h5:s=⟨#[62]⟩
 ·subst h5
  have HZ:=Hd (HQ.out 3 _ (by rw [show lvW ⟨#[62]⟩=3 by decide +kernel];rfl) HX.out)
  go_enter Tryz.func69,Tryz.ntmps69
  go_wp2_with fail
  exact HZ.out
 replace h5:s.toList≠[62]:=fun e=>yG h5 (by rw [e];decide +kernel)
 have g5:(s.toList == [62])=false:=by rw [beq_eq_false_iff_ne];exact h5
 by_cases h6:s=⟨#[62,61]⟩
 ·subst h6
  have HZ:=Hd (HQ.out 3 _ (by rw [show lvW ⟨#[62,61]⟩=3 by decide +kernel];rfl) HX.out)
  go_enter Tryz.func69,Tryz.ntmps69
  go_wp2_with fail
  exact HZ.out
 replace h6:s.toList≠[62,61]:=fun e=>yG h6 (by rw [e];decide +kernel)
 have g6:(s.toList == [62,61])=false:=by rw [beq_eq_false_iff_ne];exact h6
 by_cases h7:s=⟨#[43]⟩
 ·subst h7
  have HZ:=Hd (HQ.out 4 _ (by rw [show lvW ⟨#[43]⟩=4 by decide +kernel];rfl) HX.out)
  go_enter Tryz.func69,Tryz.ntmps69
  go_wp2_with fail
  exact HZ.out
 replace h7:s.toList≠[43]:=fun e=>yG h7 (by rw [e];decide +kernel)
 have g7:(s.toList == [43])=false:=by rw [beq_eq_false_iff_ne];exact h7
 by_cases h8:s=⟨#[45]⟩
 ·subst h8
  have HZ:=Hd (HQ.out 4 _ (by rw [show lvW ⟨#[45]⟩=4 by decide +kernel];rfl) HX.out)
  go_enter Tryz.func69,Tryz.ntmps69
  go_wp2_with fail
  exact HZ.out
 replace h8:s.toList≠[45]:=fun e=>yG h8 (by rw [e];decide +kernel)
 have g8:(s.toList == [45])=false:=by rw [beq_eq_false_iff_ne];exact h8
 by_cases h9:s=⟨#[124]⟩
 ·subst h9
  have HZ:=Hd (HQ.out 4 _ (by rw [show lvW ⟨#[124]⟩=4 by decide +kernel];rfl) HX.out)
  go_enter Tryz.func69,Tryz.ntmps69
  go_wp2_with fail
  exact HZ.out
 replace h9:s.toList≠[124]:=fun e=>yG h9 (by rw [e];decide +kernel)
 have g9:(s.toList == [124])=false:=by rw [beq_eq_false_iff_ne];exact h9
 by_cases h10:s=⟨#[94]⟩
 ·subst h10
  have HZ:=Hd (HQ.out 4 _ (by rw [show lvW ⟨#[94]⟩=4 by decide +kernel];rfl) HX.out)
  go_enter Tryz.func69,Tryz.ntmps69
  go_wp2_with fail
  exact HZ.out
 replace h10:s.toList≠[94]:=fun e=>yG h10 (by rw [e];decide +kernel)
 have g10:(s.toList == [94])=false:=by rw [beq_eq_false_iff_ne];exact h10
 by_cases h11:s=⟨#[42]⟩
 ·subst h11
  have HZ:=Hd (HQ.out 5 _ (by rw [show lvW ⟨#[42]⟩=5 by decide +kernel];rfl) HX.out)
  go_enter Tryz.func69,Tryz.ntmps69
  go_wp2_with fail
  exact HZ.out
 replace h11:s.toList≠[42]:=fun e=>yG h11 (by rw [e];decide +kernel)
 have g11:(s.toList == [42])=false:=by rw [beq_eq_false_iff_ne];exact h11
 by_cases h12:s=⟨#[47]⟩
 ·subst h12
  have HZ:=Hd (HQ.out 5 _ (by rw [show lvW ⟨#[47]⟩=5 by decide +kernel];rfl) HX.out)
  go_enter Tryz.func69,Tryz.ntmps69
  go_wp2_with fail
  exact HZ.out
 replace h12:s.toList≠[47]:=fun e=>yG h12 (by rw [e];decide +kernel)
 have g12:(s.toList == [47])=false:=by rw [beq_eq_false_iff_ne];exact h12
 by_cases h13:s=⟨#[37]⟩
 ·subst h13
  have HZ:=Hd (HQ.out 5 _ (by rw [show lvW ⟨#[37]⟩=5 by decide +kernel];rfl) HX.out)
  go_enter Tryz.func69,Tryz.ntmps69
  go_wp2_with fail
  exact HZ.out
 replace h13:s.toList≠[37]:=fun e=>yG h13 (by rw [e];decide +kernel)
 have g13:(s.toList == [37])=false:=by rw [beq_eq_false_iff_ne];exact h13
 by_cases h14:s=⟨#[60,60]⟩
 ·subst h14
  have HZ:=Hd (HQ.out 5 _ (by rw [show lvW ⟨#[60,60]⟩=5 by decide +kernel];rfl) HX.out)
  go_enter Tryz.func69,Tryz.ntmps69
  go_wp2_with fail
  exact HZ.out
 replace h14:s.toList≠[60,60]:=fun e=>yG h14 (by rw [e];decide +kernel)
 have g14:(s.toList == [60,60])=false:=by rw [beq_eq_false_iff_ne];exact h14
 by_cases h15:s=⟨#[62,62]⟩
 ·subst h15
  have HZ:=Hd (HQ.out 5 _ (by rw [show lvW ⟨#[62,62]⟩=5 by decide +kernel];rfl) HX.out)
  go_enter Tryz.func69,Tryz.ntmps69
  go_wp2_with fail
  exact HZ.out
 replace h15:s.toList≠[62,62]:=fun e=>yG h15 (by rw [e];decide +kernel)
 have g15:(s.toList == [62,62])=false:=by rw [beq_eq_false_iff_ne];exact h15
 by_cases h16:s=⟨#[38]⟩
 ·subst h16
  have HZ:=Hd (HQ.out 5 _ (by rw [show lvW ⟨#[38]⟩=5 by decide +kernel];rfl) HX.out)
  go_enter Tryz.func69,Tryz.ntmps69
  go_wp2_with fail
  exact HZ.out
 replace h16:s.toList≠[38]:=fun e=>yG h16 (by rw [e];decide +kernel)
 have g16:(s.toList == [38])=false:=by rw [beq_eq_false_iff_ne];exact h16
 by_cases h17:s=⟨#[38,94]⟩
 ·subst h17
  have HZ:=Hd (HQ.out 5 _ (by rw [show lvW ⟨#[38,94]⟩=5 by decide +kernel];rfl) HX.out)
  go_enter Tryz.func69,Tryz.ntmps69
  go_wp2_with fail
  exact HZ.out
 replace h17:s.toList≠[38,94]:=fun e=>yG h17 (by rw [e];decide +kernel)
 have g17:(s.toList == [38,94])=false:=by rw [beq_eq_false_iff_ne];exact h17
 have HZ:=Hd (HQ.out 1 _ (by rw [zXo h0 h1 h2 h3 h4 h5 h6 h7 h8 h9 h10 h11 h12 h13 h14 h15 h16 h17];rfl) HX.out)
 clear h0 h1 h2 h3 h4 h5 h6 h7 h8 h9 h10 h11 h12 h13 h14 h15 h16 h17
 go_enter Tryz.func69,Tryz.ntmps69
 go_wp2_with fail
 exact HZ.out

theorem zUk (p:Prt) (nth:Nat) (kid:Prt) (w:World) :
  Calls Tryz.prog 51 #[partA p,.int .i64 (nth:Int),partA kid] w fun e w'=>e=.returned (.bool (looseZ p nth kid))∧Below w.heap.size w w':=by
 have HQ:Hid (∀ x w',looseZ p nth kid=x→Below w.heap.size w w'→(fun (e:Ending) w'=>e=.returned (.bool (looseZ p nth kid))∧Below w.heap.size w w') (.returned (.bool x)) w'):=Hd fun x w' h hb=>⟨by rw [h],hb⟩
 generalize (fun (e:Ending) w'=>e=.returned (.bool (looseZ p nth kid))∧Below w.heap.size w w')=Q at *
 obtain ⟨k,n,s⟩:=p
 obtain ⟨k2,n2,s2⟩:=kid
 have HV:=Hd (fun W=>zKm (k,n,s) W)
 have HV2:=Hd (fun W=>zKm (k2,n2,s2) W)
 unfold partA at HV HV2 ⊢
 simp only [] at HV HV2 ⊢
 have HB1:=Hd ((Below.refl w.heap.size w).alloc (Nat.le_refl _) (.cells #[.int .u8 (k:Int),.int .i64 n,.string s] 38))
 have HPK2:=Hd (PK.alloc_new (w.alloc (.cells #[.int .u8 (k:Int),.int .i64 n,.string s] 38)) (k2,n2,s2))
 rw [World.size_alloc] at HPK2
 have HB2:=Hd (zB HB1.out ((Below.refl (w.alloc (.cells #[.int .u8 (k:Int),.int .i64 n,.string s] 38)).heap.size (w.alloc (.cells #[.int .u8 (k:Int),.int .i64 n,.string s] 38))).alloc (Nat.le_refl _) (.cells #[.int .u8 (k2:Int),.int .i64 n2,.string s2] 38)))
 have HPK:=Hd ((PK.alloc_new w (k,n,s)).keep ((Below.refl (w.alloc (.cells #[.int .u8 (k:Int),.int .i64 n,.string s] 38)).heap.size (w.alloc (.cells #[.int .u8 (k:Int),.int .i64 n,.string s] 38))).alloc (Nat.le_refl _) (.cells #[.int .u8 (k2:Int),.int .i64 n2,.string s2] 38)))
 simp only [] at HPK HPK2
 have HLZ:Hid (looseZ (k,n,s) nth (k2,n2,s2)=if k=37 then (decide (nth=0)&&decide (yL (k2,n2,s2)<yL (k,n,s))) || (decide (nth=1)&&decide (yL (k2,n2,s2)≤yL (k,n,s)))
  else if k=35∨k=36 then decide (yL (k2,n2,s2)<6)
  else if 29≤k∧k≤34 then decide (nth=0)&&decide (yL (k2,n2,s2)<7)
  else if k=61 then decide (nth=2)&&decide (yL (k2,n2,s2)<7)
  else false):=Hd rfl
 go_enter Tryz.func51,Tryz.ntmps51
 go_upto_region 1 with (fail)
 generalize (w.alloc (.cells #[.int .u8 (k:Int),.int .i64 n,.string s] 38)).alloc (.cells #[.int .u8 (k2:Int),.int .i64 n2,.string s2] 38)=W2 at *
 have q0:=HPK2.out.c0;have q1:=HPK2.out.c1;have q2:=HPK2.out.c2
 simp only [] at q0 q1 q2
 go_wp2_with fail
 refine (HV2.out W2).mono ?_
 rintro e w3 ⟨rfl,hb⟩
 have HB3:=Hd (zB HB2.out hb)
 have HPK3:=Hd (HPK.out.keep hb)
 clear hb q0 q1 q2 HV2 HB1 HB2 HPK HPK2
 generalize looseZ (k,n,s) nth (k2,n2,s2)=LZ at *
 generalize yL (k2,n2,s2)=lk at *
 generalize yL (k,n,s)=lv at *
 have p0:=HPK3.out.c0;have p1:=HPK3.out.c1;have p2:=HPK3.out.c2
 simp only [] at p0 p1 p2
 by_cases h37:k=37
 ·subst h37
  rw [show ((37:Nat):Int)=(37:Int) from rfl] at *
  have hlz:=HLZ.out
  rw [if_pos rfl] at hlz
  by_cases h0:nth=0
  ·subst h0
   go_wp2_with fail
   refine mB (HV.out w3) HB3.out fun w4 HB4=>?_
   by_cases hc:lk<lv
   ·have HZ:=Hd (HQ.out true w4 (by rw [hlz];simp [hc]) HB4.out)
    have hc2:(lk:Int)<(lv:Int):=by omega
    clear hlz
    go_wp2_with fail
    exact HZ.out
   ·have HZ:=Hd (HQ.out false w4 (by rw [hlz];simp;omega) HB4.out)
    have hc2:¬ (lk:Int)<(lv:Int):=by omega
    clear hlz
    go_wp2_with fail
    exact HZ.out
  by_cases h1:nth=1
  ·subst h1
   go_wp2_with fail
   refine mB (HV.out w3) HB3.out fun w4 HB4=>?_
   by_cases hc:lk≤lv
   ·have HZ:=Hd (HQ.out true w4 (by rw [hlz];simp [hc]) HB4.out)
    have hc2:(lk:Int)≤(lv:Int):=by omega
    clear hlz
    go_wp2_with fail
    exact HZ.out
   ·have HZ:=Hd (HQ.out false w4 (by rw [hlz];simp;omega) HB4.out)
    have hc2:¬ (lk:Int)≤(lv:Int):=by omega
    clear hlz
    go_wp2_with fail
    exact HZ.out
  have HZ:=Hd (HQ.out false w3 (by rw [hlz];simp [h0,h1]) HB3.out)
  have g0:((nth:Int) == 0)=false:=by rw [beq_eq_false_iff_ne];omega
  have g1:((nth:Int) == 1)=false:=by rw [beq_eq_false_iff_ne];omega
  clear hlz h0 h1
  go_wp2_with fail
  exact HZ.out
 clear p1 p2
 have hlz:=HLZ.out
 rw [if_neg h37] at hlz
 have g37:((k:Int) == 37)=false:=by rw [beq_eq_false_iff_ne];omega
 by_cases h35:k=35
 ·subst h35
  rw [if_pos (by omega)] at hlz
  by_cases hc:lk<6
  ·have HZ:=Hd (HQ.out true w3 (by rw [hlz];simp [hc]) HB3.out)
   have hc2:(lk:Int)<6:=by omega
   clear hlz
   go_wp2_with fail
   exact HZ.out
  ·have HZ:=Hd (HQ.out false w3 (by rw [hlz];simp;omega) HB3.out)
   have hc2:decide ((lk:Int)<6)=false:=decide_eq_false (by omega)
   clear hlz
   go_wp2_with fail
   exact HZ.out
 have g35:((k:Int) == 35)=false:=by rw [beq_eq_false_iff_ne];omega
 by_cases h36:k=36
 ·subst h36
  rw [if_pos (by omega)] at hlz
  by_cases hc:lk<6
  ·have HZ:=Hd (HQ.out true w3 (by rw [hlz];simp [hc]) HB3.out)
   have hc2:(lk:Int)<6:=by omega
   clear hlz
   go_wp2_with fail
   exact HZ.out
  ·have HZ:=Hd (HQ.out false w3 (by rw [hlz];simp;omega) HB3.out)
   have hc2:decide ((lk:Int)<6)=false:=decide_eq_false (by omega)
   clear hlz
   go_wp2_with fail
   exact HZ.out
 have g36:((k:Int) == 36)=false:=by rw [beq_eq_false_iff_ne];omega
 rw [if_neg (by omega)] at hlz
 by_cases hkk:29≤k∧k≤34
 ·rw [if_pos hkk] at hlz
  have hk6:k=29∨k=30∨k=31∨k=32∨k=33∨k=34:=by omega
  by_cases h0:nth=0
  ·subst h0
   by_cases hc:lk<7
   ·have HZ:=Hd (HQ.out true w3 (by rw [hlz];simp [hc]) HB3.out)
    have hc2:(lk:Int)<7:=by omega
    clear hlz h35 h36 h37 hkk g35 g36 g37
    rcases hk6 with rfl | rfl | rfl | rfl | rfl | rfl
    all_goals
     go_wp2_with fail
     exact HZ.out
   ·have HZ:=Hd (HQ.out false w3 (by rw [hlz];simp;omega) HB3.out)
    have hc2:decide ((lk:Int)<7)=false:=decide_eq_false (by omega)
    clear hlz h35 h36 h37 hkk g35 g36 g37
    rcases hk6 with rfl | rfl | rfl | rfl | rfl | rfl
    all_goals
     go_wp2_with fail
     exact HZ.out
  have HZ:=Hd (HQ.out false w3 (by rw [hlz];simp [h0]) HB3.out)
  have g0:((nth:Int) == 0)=false:=by rw [beq_eq_false_iff_ne];omega
  clear hlz h0 h35 h36 h37 hkk g35 g36 g37
  rcases hk6 with rfl | rfl | rfl | rfl | rfl | rfl
  all_goals
   go_wp2_with fail
   exact HZ.out
 rw [if_neg hkk] at hlz
 have g29:((k:Int) == 29)=false:=by rw [beq_eq_false_iff_ne];omega
 have g30:((k:Int) == 30)=false:=by rw [beq_eq_false_iff_ne];omega
 have g31:((k:Int) == 31)=false:=by rw [beq_eq_false_iff_ne];omega
 have g32:((k:Int) == 32)=false:=by rw [beq_eq_false_iff_ne];omega
 have g33:((k:Int) == 33)=false:=by rw [beq_eq_false_iff_ne];omega
 have g34:((k:Int) == 34)=false:=by rw [beq_eq_false_iff_ne];omega
 by_cases h61:k=61
 ·subst h61
  rw [if_pos (by omega)] at hlz
  by_cases h0:nth=2
  ·subst h0
   by_cases hc:lk<7
   ·have HZ:=Hd (HQ.out true w3 (by rw [hlz];simp [hc]) HB3.out)
    have hc2:(lk:Int)<7:=by omega
    clear hlz
    go_wp2_with fail
    exact HZ.out
   ·have HZ:=Hd (HQ.out false w3 (by rw [hlz];simp;omega) HB3.out)
    have hc2:decide ((lk:Int)<7)=false:=decide_eq_false (by omega)
    clear hlz
    go_wp2_with fail
    exact HZ.out
  have HZ:=Hd (HQ.out false w3 (by rw [hlz];simp [h0]) HB3.out)
  have g0:((nth:Int) == 2)=false:=by rw [beq_eq_false_iff_ne];omega
  clear hlz h0
  go_wp2_with fail
  exact HZ.out
 have g61:((k:Int) == 61)=false:=by rw [beq_eq_false_iff_ne];omega
 rw [if_neg h61] at hlz
 have HZ:=Hd (HQ.out false w3 hlz HB3.out)
 clear hlz h37 h35 h36 hkk h61
 go_wp2_with fail
 exact HZ.out
end Go.Proofs.YtfalelkfhandfaaGreatDoor
