/- Layer 11: the program's functions, walked: ends, well, Well. -/
import Derived.Test.YtmklemelgdilkaaGreatDoorCoreMk
import Derived.Deep.QuietTactic
import Derived.BigQuiet
import Derived.Deep.Cut
namespace Go.Proofs.YtmklemelgdilkaaGreatDoor
set_option linter.all false
open Go.RowKit

theorem Tinfo_int:(Tryz.prog.info? 3).map (fun i=>(i.zero,i.size,i.bytes))=some (some (.int .i64 0),1,8):=by kernel_rfl
theorem Tmake_ints (n:Nat) (hn:n≤1000000000) (w:World) :
  (Instr.makeSlice 27 (.int .i64 (n:Int)) (.int .i64 (n:Int))).run Tryz.prog w=.ok (.slice (some ⟨w.heap.size,0,none⟩) n n) (w.alloc (.cells ((List.replicate n (0:Int)).map (Value.int .i64)).toArray 3)):=by
 obtain ⟨i,hi,hz,hsz,hb⟩:=info_parts Tinfo_int
 have hr:=run_make (P:=Tryz.prog) w 27 3 i (.int .i64 0) Tryz.underlying27 hi hz .i64 .i64 (n:Int) (n:Int) (by omega) (Int.le_refl _) (by rw [hb];omega) (by omega)
 rw [hsz] at hr
 have e:madeCells (Value.int .i64 0).cells ((n:Int).toNat*1)=((List.replicate n (0:Int)).map (Value.int .i64)).toArray:=by
  apply Array.ext'
  rw [Int.toNat_natCast,Nat.mul_one]
  show (madeCells #[.int .i64 0] n).toList=_
  rw [toList_madeCells_one,List.map_replicate]
 rw [e] at hr
 simpa using hr
theorem Tcell_setCell_ne {w:World} {a:Addr} {b i:Nat} (h:b≠a.block) (u:Value):(w.setCell a u).cell? ⟨b,i,none⟩=w.cell? ⟨b,i,none⟩:=by
 simp only [World.cell?,heap_setCell_other _ _ _ _ h]
theorem ownsRow_take {w:World} {B:Nat} {a:Option Addr} {e:TypeId} {size n cap:Nat} {xs:List Value} (h:w.ownsRow B e size (.slice a n cap) n xs) {k:Nat} (hk:k≤n):w.ownsRow B e size (.slice a k cap) k (xs.take (k*size)):=by
 obtain ⟨h1,h2⟩:=h
 have hm:k*size≤n*size:=Nat.mul_le_mul_right _ hk
 refine ⟨by rw [List.length_take];omega,?_⟩
 rcases h2 with ⟨hv,hn⟩ | ⟨g,cap',cur,hv,hg,hh,hnc,hcm,hcs,htk⟩
 ·subst hn
  obtain rfl:k=0:=by omega
  exact Or.inl ⟨hv,rfl⟩
 ·simp only [Value.slice.injEq,true_and] at hv
  obtain ⟨rfl,rfl⟩:=hv
  refine Or.inr ⟨g,cap,cur,rfl,hg,hh,by omega,hcm,hcs,?_⟩
  rw [← htk,List.take_take,Nat.min_eq_left hm]
theorem ownsRow_some {w:World} {B:Nat} {a:Option Addr} {e:TypeId} {size n m cap:Nat} {xs:List Value} (h:w.ownsRow B e size (.slice a m cap) n xs) (hn:0<n):∃ g,a=some ⟨g,0,none⟩:=by
 rcases h.2 with ⟨_,h0⟩ | ⟨g,cap',cur,hv,_⟩
 ·omega
 ·simp only [Value.slice.injEq] at hv
  exact ⟨g,hv.1⟩
def partV (p:Prt):List Value:=[.int .u8 (p.1:Int),.int .i64 p.2.1,.string p.2.2]
def partsV (l:List Prt):List Value:=l.flatMap partV
theorem partsV_length (l:List Prt):(partsV l).length=l.length*3:=by
 induction l with
 | nil=>rfl
 | cons p l ih=>show (partV p++partsV l).length=_;rw [List.length_append,ih,List.length_cons];show 3+_=_;omega
theorem partsV_append (a b:List Prt):partsV (a++b)=partsV a++partsV b:=by unfold partsV;rw [List.flatMap_append]
theorem partsV_at:∀ (l:List Prt) (i:Nat) (hi:i<l.length),(partsV l)[i*3]?=some (.int .u8 (l[i].1:Int))∧(partsV l)[i*3+1]?=some (.int .i64 l[i].2.1)∧(partsV l)[i*3+2]?=some (.string l[i].2.2)
 | p::l,0,_=>⟨rfl,rfl,rfl⟩
 | p::l,i+1,hi=>by
  have:=partsV_at l i (by simpa using hi)
  have e:partsV (p::l)=partV p++partsV l:=rfl
  rw [e]
  simp only [List.getElem_cons_succ]
  rw [List.getElem?_append_right (by simp [partV];omega),List.getElem?_append_right (by simp [partV];omega),List.getElem?_append_right (by simp [partV];omega)]
  have e1:(i+1)*3-(partV p).length=i*3:=by simp [partV];omega
  have e2:(i+1)*3+1-(partV p).length=i*3+1:=by simp [partV];omega
  have e3:(i+1)*3+2-(partV p).length=i*3+2:=by simp [partV];omega
  rw [e1,e2,e3]
  exact this
def PartRow (w:World) (v:Value) (l:List Prt):Prop:=Row w v l.length 3 (partsV l)
theorem PartRow.below {w w':World} {v:Value} {l:List Prt} (h:PartRow w v l) (hb:Below w.heap.size w w'):PartRow w' v l:=Row.below h hb
theorem PartRow.slice {w:World} {v:Value} {l:List Prt} (h:PartRow w v l):∃ a cap,v=.slice a l.length cap∧l.length≤cap:=by
 obtain ⟨_,a,cap,hv,hc,_⟩:=h;exact ⟨a,cap,hv,hc⟩
theorem PartRow.at {w w':World} {a:Option Addr} {n cap:Nat} {l:List Prt} (h:PartRow w (.slice a n cap) l) (hb:Below w.heap.size w w') (hp:0<l.length) :
  ∃ b off,a=some ⟨b,off,Option.none⟩∧n=l.length∧l.length≤cap∧b<w.heap.size∧∀ i (hi:i<l.length),w'.cell? ⟨b,off+i*3,Option.none⟩=some (.int .u8 (l[i].1:Int))∧w'.cell? ⟨b,off+i*3+1,Option.none⟩=some (.int .i64 l[i].2.1)∧w'.cell? ⟨b,off+i*3+2,Option.none⟩=some (.string l[i].2.2):=by
 obtain ⟨h1,a',cap',hv,hc,_,h2⟩:=h
 simp only [Value.slice.injEq] at hv
 obtain ⟨rfl,rfl,rfl⟩:=hv
 obtain ⟨b,off,ha,hbl,hcell⟩:=h2 hp
 refine ⟨b,off,ha,rfl,hc,hbl,fun i hi=>?_⟩
 obtain ⟨g1,g2,g3⟩:=partsV_at l i hi
 refine ⟨?_,?_,?_⟩
 ·rw [hb.cell (p:=⟨b,off+i*3,Option.none⟩) hbl,hcell _ (by omega)];exact g1
 ·rw [hb.cell (p:=⟨b,off+i*3+1,Option.none⟩) hbl,Nat.add_assoc,hcell _ (by omega)];exact g2
 ·rw [hb.cell (p:=⟨b,off+i*3+2,Option.none⟩) hbl,Nat.add_assoc,hcell _ (by omega)];exact g3
def endsL (l:List Prt):List Int:=(List.range l.length).map fun i=>(endB l i:Int)
theorem endsL_get {l:List Prt} {j:Nat} (hj:j<l.length):(endsL l)[j]?=some (endB l j:Int):=by simp [endsL,hj]
theorem endsL_length (l:List Prt):(endsL l).length=l.length:=by simp [endsL]
@[irreducible] def endsPost (l:List Prt) (w0:World) (e:Ending) (w':World):Prop :=
 match rowsB l with
 | some ts=>∃ v,e=.returned (.tuple #[v,.int .i64 (ts.length:Int),.bool true])∧Below w0.heap.size w0 w'∧RowInts w' v .i64 (endsL l)
 | none=>e=.returned (.tuple #[.slice none 0 0,.int .i64 0,.bool false])∧Below w0.heap.size w0 w'
def endsRel (l:List Prt) (w:World) (op j:Value) (wr:World):Prop :=
 ∃ (k:Nat) (ts:List Nat) (E:List Int),j=.int .i64 ((k:Int)-1)∧k≤l.length∧rowsB (l.drop k)=some ts∧E.length=l.length∧(∀ i,k≤i→i<l.length→E.getD i 0=(endB l i:Int)) ∧
  wr.heap[w.heap.size]?=some (.cells (E.map (Value.int .i64)).toArray 3 (0,0))∧wr.ownsRow (w.heap.size+1) 3 1 op ts.length ((starts k ts).reverse.map fun (x:Nat)=>Value.int .i64 (x:Int))∧Below w.heap.size w wr
theorem ends_round {l:List Prt} {w Wx w':World} {B i q:Nat} {ts:List Nat} {E:List Int} {oa:Option Addr} {oc:Nat} {v':Value} (hB:w.heap.size=B) (hil:i<l.length) (hrow:rowsB (l.drop i)=some ((1+(ts.take q).sum)::ts.drop q))
  (hst:i::(starts (i+1) ts).drop q=starts i ((1+(ts.take q).sum)::ts.drop q)) (hq:q≤ts.length) (hEl:E.length=l.length) (hE:∀ j,i+1≤j→j<l.length→E.getD j 0=(endB l j:Int))
  (hx1:Wx.heap[B]?=some (.cells ((E.set i (endB l i:Int)).map (Value.int .i64)).toArray 3 (0,0))) (hx3:Below B w Wx)
  (n:Nat) (hn:n=ts.length-q) (xs ys:List Value) (hxs:xs=((starts (i+1) ts).reverse.map fun (x:Nat)=>Value.int .i64 (x:Int)).take (n*1))
  (hx2:Wx.ownsRow (B+1) 3 1 (.slice oa n oc) n xs)
  (hown:w'.ownsRow (B+1) 3 1 v' (n+1) ys) (hys:ys=xs++[.int .i64 (i:Int)])
  (hg:(Wx.alloc (.cells #[.int .i64 (i:Int)] 3)).grownBy w' (Value.slice oa n oc).ownBlock):endsRel l w v' (.int .i64 ((i:Int)-1)) w':=by
 have hlt:=lt_of_block hx1
 subst hys hxs hn
 refine ⟨i,_,E.set i (endB l i:Int),rfl,by omega,hrow,by rw [List.length_set];exact hEl,fun j h1 h2=>?_,?_,?_,?_⟩
 ·rw [List.getD_eq_getElem?_getD,List.getElem?_set]
  by_cases e:i=j
  ·subst e;rw [if_pos rfl,if_pos (by omega)];rfl
  ·rw [if_neg e,← List.getD_eq_getElem?_getD];exact hE j (by omega) h2
 ·rw [hB,hg.block B (by simp;omega) (fun e=>by have:=hx2.lt B e.symm;omega),Below.heap_alloc _ _ _ hlt];exact hx1
 ·rw [hB]
  have e1:(starts i ((1+(ts.take q).sum)::ts.drop q)).reverse.map (fun (x:Nat)=>Value.int .i64 (x:Int))=((starts (i+1) ts).reverse.map fun (x:Nat)=>Value.int .i64 (x:Int)).take ((ts.length-q)*1)++[.int .i64 (i:Int)]:=by
   rw [← hst,List.reverse_cons,List.map_append,Nat.mul_one,← List.map_take,List.take_reverse,starts_length,show ts.length-(ts.length-q)=q by omega]
   rfl
  rw [e1,show ((1+(ts.take q).sum)::ts.drop q).length=ts.length-q+1 by rw [List.length_cons,List.length_drop]]
  exact hown
 ·rw [hB]
  exact grown_below hx3 (by omega) (owns_mono hx2 (Nat.le_succ B)) hg
theorem ends_look {l:List Prt} {i q:Nat} {ts:List Nat} (hts:rowsB (l.drop (i+1))=some ts) (hq:0<q) (hql:q≤ts.length) (hEi:endB l i=i+(1+(ts.take q).sum)) :
  ∃ s,i<s∧s<l.length∧endB l s=endB l i∧((starts (i+1) ts).reverse.map fun (x:Nat)=>Value.int .i64 (x:Int))[ts.length-q]?=some (.int .i64 (s:Int)):=by
 obtain ⟨r,rfl⟩:∃ r,q=r+1:=⟨q-1,by omega⟩
 have hk:=rowsB_skip r hts (by omega)
 rw [List.drop_drop] at hk
 have hd:ts.drop r=ts[r]::ts.drop (r+1):=List.drop_eq_getElem_cons (by omega)
 have hsum:(ts.take (r+1)).sum=(ts.take r).sum+ts[r]:=by rw [List.take_succ_eq_append_getElem (by omega),List.sum_append];simp
 have hpos:=(rowsB_sum hts).2.2 ts[r] (List.getElem_mem (by omega))
 have hh:=headSize_of (hk.trans (congrArg some hd))
 refine ⟨i+1+(ts.take r).sum,by omega,?_,?_,?_⟩
 ·have h1:=(rowsB_sum hk).1
  rw [hd,List.sum_cons,List.length_drop] at h1
  omega
 ·rw [hEi,hsum];unfold endB;rw [hh];omega
 ·have hz:=starts_length ts (i+1)
  rw [List.getElem?_map,List.getElem?_reverse (by omega),hz,show ts.length-1-(ts.length-(r+1))=r by omega]
  have:=starts_get ts (i+1) r (by omega)
  rw [List.getD_eq_getElem?_getD,List.getElem?_eq_getElem (by omega)] at this
  rw [List.getElem?_eq_getElem (by omega)]
  simp only [Option.getD_some] at this
  rw [this];rfl
set_option maxRecDepth 100000 in
set_option maxHeartbeats 8000000 in
theorem term_ends (l:List Prt) (hl:l.length≤1000000000) (v:Value) (w:World) (hr:PartRow w v l) :
  Calls Tryz.prog 67 #[v] w (endsPost l w):=by
 have HQ:RowKit.Hid (∀ v' ts w',rowsB l=some ts→Below w.heap.size w w'→RowInts w' v' .i64 (endsL l)→endsPost l w (.returned (.tuple #[v',.int .i64 (ts.length:Int),.bool true])) w'):=Hd fun v' ts w' h1 h2 h3=>by
  unfold endsPost;rw [h1];exact ⟨v',rfl,h2,h3⟩
 have HN:RowKit.Hid (∀ w',rowsB l=none→Below w.heap.size w w'→endsPost l w (.returned (.tuple #[.slice none 0 0,.int .i64 0,.bool false])) w'):=Hd fun w' h1 h2=>by
  unfold endsPost;rw [h1];exact ⟨rfl,h2⟩
 generalize endsPost l w=Q at *
 have HR:=Hd hr
 obtain ⟨va,vcap,rfl,hvc⟩:=hr.slice
 clear hr
 have hmk:=Tmake_ints l.length hl
 have hwl:IntKind.i64.wrap ((l.length:Int)-1)=(l.length:Int)-1:=by rw [IntKind.wrap_i64];omega
 go_enter Tryz.func67,Tryz.ntmps67
 go_wp2_with fail
 have HK0:RowKit.Hid ((w.alloc (.cells (Array.replicate l.length (Value.int .i64 0)) 3)).heap[w.heap.size]?=some (.cells ((List.replicate l.length (0:Int)).map (Value.int .i64)).toArray 3 (0,0))):=Hd (by
  have:=heap_alloc_new w (.cells (Array.replicate l.length (Value.int .i64 0)) 3)
  rw [this,List.map_replicate,List.toArray_replicate])
 have HB0:RowKit.Hid (Below w.heap.size w (w.alloc (.cells (Array.replicate l.length (Value.int .i64 0)) 3))):=Hd ((Below.refl _ _).alloc (Nat.le_refl _) _)
 generalize w.alloc (.cells (Array.replicate l.length (Value.int .i64 0)) 3)=W0 at *
 generalize hBB:w.heap.size=B at *
 have HBB:=Hd hBB
 clear hBB
 go_loopw [6,7] (fun op j wr=>endsRel l w op j wr) (fun _ j _=>(intOf j+1).toNat)
 case atStart =>
  refine ⟨l.length,[],List.replicate l.length 0,rfl,Nat.le_refl _,by rw [List.drop_length];rfl,by simp,fun i h1 h2=>by omega,?_,?_,?_⟩
  ·rw [HBB.out];exact HK0.out
  ·exact World.ownsRow_nil _ _ _ _
  ·rw [HBB.out];exact HB0.out
 case round =>
  obtain ⟨k,ts,E,rfl,hk,hts,hEl,hEq,hh,ho,hb⟩:=hrel
  rw [HBB.out] at hh ho hb
  have HB:=Hd hb
  have HH:=Hd hh
  have HO:=Hd ho
  have HTS:=Hd hts
  have HEQ:=Hd hEq
  have HEL:=Hd hEl
  obtain ⟨_,oa,oc,rfl,hoc,_,_⟩:=Row.of_owns ho
  have htl:ts.length≤l.length:=by have:=(rowsB_sum hts).2.1;rw [List.length_drop] at this;omega
  have hBlt:B<wr.heap.size:=lt_of_block hh
  clear hb hh ho hEq hEl hts
  by_cases hk0:0<k
  ·obtain ⟨i,rfl⟩:∃ i,k=i+1:=⟨k-1,by omega⟩
   rw [show (((i+1:Nat):Int)-1)=(i:Int) by omega]
   have hil:i<l.length:=hk
   obtain ⟨b,off,rfl,_,_,hbl,hcell⟩:=HR.out.at (HBB.out ▸ HB.out) (show 0<l.length by omega)
   have c0:=(hcell i hil).2.1
   have hdr:l.drop i=l[i]::l.drop (i+1):=List.drop_eq_getElem_cons hil
   have HDR:=Hd hdr
   have hi0:(0:Int)≤i:=by omega
   have hil':(i:Int)<l.length:=by omega
   have hic:(i:Int)<vcap:=by omega
   have hge:¬ (i:Int)<0:=by omega
   clear hcell hdr hk0
   have hbad:¬ (0≤(l[i]).2.1∧(l[i]).2.1≤(ts.length:Int))→rowsB l=none:=fun hc=>by
    cases hr:rowsB l with
    | none=>rfl
    | some us =>
     obtain ⟨vs,hvs⟩:=rowsB_drop hr i
     rw [HDR.out,rowsB_bad HTS.out hc] at hvs
     cases hvs
   have hgood:0≤(l[i]).2.1∧(l[i]).2.1≤(ts.length:Int)→rowsB (l.drop i)=some ((1+(ts.take (l[i]).2.1.toNat).sum)::ts.drop (l[i]).2.1.toNat):=fun hc=>by
    rw [HDR.out];exact rowsB_cons HTS.out hc.1 hc.2
   have HBAD:=Hd hbad
   have HGOOD:=Hd hgood
   have HST:=Hd (fun (h:(l[i]).2.1≤(ts.length:Int))=>starts_step (p:=l[i]) i h)
   clear hbad hgood
   generalize (l[i]).2.1=x at *
   by_cases hx0:x<0
   ·go_wp2_with fail
    exact HN.out _ (HBAD.out (fun h=>by omega)) (HBB.out ▸ HB.out)
   ·by_cases hx1:(ts.length:Int)<x
    ·go_wp2_with fail
     exact HN.out _ (HBAD.out (fun h=>by omega)) (HBB.out ▸ HB.out)
    ·have hg:=HGOOD.out ⟨by omega,by omega⟩
     have hst:=HST.out (by omega)
     obtain ⟨q,rfl⟩:∃ q:Nat,x=q:=⟨x.toNat,by omega⟩
     rw [Int.toNat_natCast] at hg hst
     have HG:=Hd hg
     have HS:=Hd hst
     have hEi:endB l i=i+(1+(ts.take q).sum):=by unfold endB;rw [headSize_of hg]
     have HEI:=Hd hEi
     clear hg hst hEi HBAD HGOOD HST
     have c1:wr.cell? ⟨B,i,none⟩=some (.int .i64 (E.getD i 0)):=by
      simp [World.cell?,HH.out,HEL.out,hil,List.getD_eq_getElem?_getD]
     have z1:wr.frozen? ⟨B,i,none⟩=false:=by simp [World.frozen?,HH.out]
     have hwi:IntKind.i64.wrap ((i:Int)+1)=(i:Int)+1:=by rw [IntKind.wrap_i64];omega
     have hwm:IntKind.i64.wrap ((i:Int)-1)=(i:Int)-1:=by rw [IntKind.wrap_i64];omega
     have hwq:IntKind.i64.wrap ((ts.length:Int)-(q:Int))=(ts.length:Int)-(q:Int):=by rw [IntKind.wrap_i64];omega
     have hq0:(0:Int)≤(ts.length:Int)-(q:Int):=by omega
     have hqc:(ts.length:Int)-(q:Int)≤oc:=by omega
     have hqn:((ts.length:Int)-(q:Int)).toNat=ts.length-q:=by omega
     have hql:q≤ts.length:=by omega
     have HQL:=Hd hql
     have hs0:∀ W' u,W'=wr.setCell ⟨B,i,none⟩ u→W'.ownsRow (B+1) 3 1 (.slice oa ts.length oc) ts.length ((starts (i+1) ts).reverse.map fun (x:Nat)=>Value.int .i64 (x:Int))∧Below B w W':=fun W' u e=>by
      subst e
      exact ⟨ownsRow_setCell_below HO.out (Nat.lt_succ_self B) u,HB.out.setCell (p:=⟨B,i,none⟩) (Nat.le_refl _) u⟩
     have hh1:∀ x:Int,(wr.setCell ⟨B,i,none⟩ (.int .i64 x)).heap[B]?=some (.cells ((E.set i x).map (Value.int .i64)).toArray 3 (0,0)):=fun x=>by
      rw [heap_setCell_same _ _ _ _ _ _ HH.out,List.setIfInBounds_toArray,← List.map_set]
     by_cases hq:0<q
     ·obtain ⟨s,hs1,hs2,hs3,hs4⟩:=ends_look HTS.out hq hql HEI.out
      obtain ⟨g,rfl⟩:=ownsRow_some HO.out (by omega)
      obtain ⟨g1,g2⟩:=hs0 _ (.int .i64 ((i:Int)+1)) rfl
      have c2:(wr.setCell ⟨B,i,none⟩ (.int .i64 ((i:Int)+1))).cell? ⟨g,ts.length-q,none⟩=some (.int .i64 (s:Int)):=by
       rw [g1.cellAt _ (by omega)];exact hs4
      have c3:(wr.setCell ⟨B,i,none⟩ (.int .i64 ((i:Int)+1))).cell? ⟨B,s,none⟩=some (.int .i64 (endB l i:Int)):=by
       have:=HEQ.out s hs1 hs2
       rw [hs3] at this
       rw [List.getD_eq_getElem?_getD] at this
       simp only [World.cell?,hh1]
       rw [← this]
       simp [HEL.out,hs2,show ¬ i=s by omega]
      have c4:(wr.setCell ⟨B,i,none⟩ (.int .i64 ((i:Int)+1))).cell? ⟨B,i,none⟩=some (.int .i64 ((i:Int)+1)):=by
       simp only [World.cell?,hh1]
       simp [HEL.out,hil]
      have z4:(wr.setCell ⟨B,i,none⟩ (.int .i64 ((i:Int)+1))).frozen? ⟨B,i,none⟩=false:=by simp [World.frozen?,hh1]
      have HX1:RowKit.Hid (((wr.setCell ⟨B,i,none⟩ (.int .i64 ((i:Int)+1))).setCell ⟨B,i,none⟩ (.int .i64 (endB l i:Int))).heap[B]?=some (.cells ((E.set i (endB l i:Int)).map (Value.int .i64)).toArray 3 (0,0))):=Hd (by
       rw [heap_setCell_same _ _ _ _ _ _ (hh1 _),List.setIfInBounds_toArray,← List.map_set,List.set_set])
      have HX2:=Hd (ownsRow_take (ownsRow_setCell_below g1 (a:=⟨B,i,none⟩) (Nat.lt_succ_self B) (.int .i64 (endB l i:Int))) (k:=ts.length-q) (by omega))
      have HXB:=Hd (g2.setCell (p:=⟨B,i,none⟩) (Nat.le_refl _) (.int .i64 (endB l i:Int)))
      have hsz:B+1≤((wr.setCell ⟨B,i,none⟩ (.int .i64 ((i:Int)+1))).setCell ⟨B,i,none⟩ (.int .i64 (endB l i:Int))).heap.size:=by simp;omega
      have hq0i:(0:Int)<(q:Int):=by omega
      have hq1i:(ts.length:Int)-(q:Int)<ts.length:=by omega
      have hs0i:(0:Int)≤(s:Int):=by omega
      have hs2i:(s:Int)<l.length:=by omega
      clear hs4 hs3 g1 g2 hs0 hh1
      have HEJ:RowKit.Hid (∃ z,z=endB l i):=Hd ⟨_,rfl⟩
      generalize hee:endB l i=ee at *
      have HEE:=Hd hee
      clear hee
      go_upto_region 12 with (fail)
      clear c2 c3 c4 z4 c1 z1 c0
      generalize (wr.setCell ⟨B,i,none⟩ (.int .i64 ((i:Int)+1))).setCell ⟨B,i,none⟩ (.int .i64 (ee:Int))=Wx at *
      go_wp2_with (at_builtin;refine wpList_append_lit Wx #[.int .i64 (i:Int)] _ rfl _ _ 27 3 rfl Tryz.underlying27 (B+1) Tinfo_int rfl (by decide) _ _ _ rfl HX2.out 1 1 rfl rfl (by decide) (by intro u hu;simp at hu;subst hu;rfl) (by omega) (by omega) hsz ?_)
      intro v' w' hown hgr _
      obtain ⟨_,va',vc',rfl,_,_,_⟩:=Row.of_owns hown
      have HX1':RowKit.Hid (Wx.heap[B]?=some (.cells ((E.set i (endB l i:Int)).map (Value.int .i64)).toArray 3 (0,0))):=Hd (by rw [HEE.out];exact HX1.out)
      have HR1:=Hd (ends_round HBB.out hil HG.out HS.out HQL.out HEL.out HEQ.out HX1'.out HXB.out (ts.length-q) rfl _ _ rfl HX2.out hown (by simp) hgr)
      clear hown hgr
      go_wp2_with fail
      refine ⟨HR1.out,?_⟩
      simp only [intOf];omega
     ·obtain rfl:q=0:=by omega
      obtain ⟨g1,g2⟩:=hs0 _ (.int .i64 ((i:Int)+1)) rfl
      have hX2:=ownsRow_take g1 (k:=ts.length) (Nat.le_refl _)
      have HX2:=Hd hX2
      have HXB:=Hd g2
      have HX1:RowKit.Hid ((wr.setCell ⟨B,i,none⟩ (.int .i64 ((i:Int)+1))).heap[B]?=some (.cells ((E.set i (endB l i:Int)).map (Value.int .i64)).toArray 3 (0,0))):=Hd (by
       rw [HEI.out,List.take_zero,List.sum_nil];exact hh1 _)
      have hsz:B+1≤(wr.setCell ⟨B,i,none⟩ (.int .i64 ((i:Int)+1))).heap.size:=by simp;omega
      clear hX2 g1 g2 hs0 hh1
      go_upto_region 12 with (fail)
      generalize wr.setCell ⟨B,i,none⟩ (.int .i64 ((i:Int)+1))=Wx at *
      go_wp2_with (at_builtin;refine wpList_append_lit Wx #[.int .i64 (i:Int)] _ rfl _ _ 27 3 rfl Tryz.underlying27 (B+1) Tinfo_int rfl (by decide) _ _ _ rfl HX2.out 1 1 rfl rfl (by decide) (by intro u hu;simp at hu;subst hu;rfl) (by omega) (by omega) hsz ?_)
      intro v' w' hown hgr _
      obtain ⟨_,va',vc',rfl,_,_,_⟩:=Row.of_owns hown
      have HR1:=Hd (ends_round HBB.out hil HG.out HS.out (Nat.zero_le _) HEL.out HEQ.out HX1.out HXB.out ts.length (Nat.sub_zero _).symm _ _ rfl HX2.out hown (by simp) hgr)
      clear hown hgr
      go_wp2_with fail
      refine ⟨HR1.out,?_⟩
      simp only [intOf];omega
  ·obtain rfl:k=0:=by omega
   rw [show (((0:Nat):Int)-1)=-1 by rfl]
   go_wp2_with fail
   have hEL:E=endsL l:=by
    apply List.ext_getElem
    ·rw [HEL.out];simp [endsL]
    ·intro i h1 h2
     have:=HEQ.out i (Nat.zero_le _) (by rw [← HEL.out];exact h1)
     rw [List.getD_eq_getElem?_getD,List.getElem?_eq_getElem h1] at this
     simp only [Option.getD_some] at this
     rw [this]
     simp [endsL]
   show Q (.returned (.tuple #[.slice (some ⟨B,0,none⟩) l.length l.length,.int .i64 (ts.length:Int),.bool true])) wr
   refine HQ.out _ ts _ (by have:=HTS.out;rwa [List.drop_zero] at this) (HBB.out ▸ HB.out) ?_
   have hh:=HH.out
   rw [hEL] at hh
   have hz:(endsL l).length=l.length:=by simp [endsL]
   refine ⟨by simp,_,_,by rw [hz],by rw [hz];exact Nat.le_refl _,by simp,fun hn=>⟨B,0,rfl,hBlt,fun i hi=>?_⟩⟩
   rw [Nat.zero_add]
   simp only [World.cell?,hh]
   simp
@[irreducible] def wellPost (l:List Prt) (w0:World) (e:Ending) (w':World):Prop :=
 ∃ v,e=.returned (.tuple #[v,.bool (wellB l)])∧Below w0.heap.size w0 w'∧(wellB l=true→RowInts w' v .i64 (endsL l))∧∃ a n c,v=.slice a n c
theorem wellB_of {l:List Prt} {ts:List Nat} (h:rowsB l=some ts):wellB l=decide (ts.length=1):=by
 unfold wellB
 rw [h]
 match ts with
 | []=>rfl
 | [_]=>rfl
 | _::_::_=>simp
theorem wellB_none {l:List Prt} (h:rowsB l=none):wellB l=false:=by unfold wellB;rw [h]
set_option maxRecDepth 100000 in
set_option maxHeartbeats 4000000 in
theorem term_well (l:List Prt) (hl:l.length≤1000000000) (v:Value) (w:World) (hr:PartRow w v l) :
  Calls Tryz.prog 51 #[v] w (wellPost l w):=by
 have HQ:RowKit.Hid (∀ v' x w',wellB l=x→Below w.heap.size w w'→(wellB l=true→RowInts w' v' .i64 (endsL l))→(∃ a n c,v'=.slice a n c)→wellPost l w (.returned (.tuple #[v',.bool x])) w'):=Hd fun v' x w' h1 h2 h3 h4=>by
  unfold wellPost;rw [h1];exact ⟨v',rfl,h2,by rw [← h1];exact h3,h4⟩
 generalize wellPost l w=Q at *
 have C1:=Hd (term_ends l hl v w hr)
 obtain ⟨va,vcap,rfl,hvc⟩:=hr.slice
 clear hr
 go_enter Tryz.func51,Tryz.ntmps51
 go_wp2_with fail
 refine C1.out.mono ?_
 intro e w1 h1
 unfold endsPost at h1
 cases hrow:rowsB l with
 | some ts =>
  rw [hrow] at h1
  obtain ⟨v1,rfl,hb1,hr1⟩:=h1
  have HB1:=Hd hb1
  have HR1:=Hd hr1
  have hw:=wellB_of hrow
  obtain ⟨a1,c1,rfl,_,_⟩:=hr1.open'
  clear hb1 hr1 C1
  by_cases ht:ts.length=1
  ·have htb:((ts.length:Int) == 1)=true:=by rw [beq_iff_eq];omega
   have HW:=Hd (hw.trans (decide_eq_true ht))
   clear hw ht
   go_wp2_with fail
   exact HQ.out _ _ _ HW.out HB1.out (fun _=>HR1.out) ⟨_,_,_,rfl⟩
  ·have htb:((ts.length:Int) == 1)=false:=by rw [beq_eq_false_iff_ne];omega
   have HW:=Hd (hw.trans (decide_eq_false ht))
   clear hw ht
   go_wp2_with fail
   exact HQ.out _ _ _ HW.out HB1.out (fun _=>HR1.out) ⟨_,_,_,rfl⟩
 | none =>
  rw [hrow] at h1
  obtain ⟨rfl,hb1⟩:=h1
  have HB1:=Hd hb1
  have HW:=Hd (wellB_none hrow)
  clear hb1 C1
  go_wp2_with fail
  exact HQ.out _ _ _ HW.out HB1.out (fun h=>by rw [HW.out] at h;cases h) ⟨_,_,_,rfl⟩
set_option maxRecDepth 100000 in
theorem term_Well (l:List Prt) (hl:l.length≤1000000000) (v:Value) (w:World) (hr:PartRow w v l) :
  Calls Tryz.prog 31 #[v] w fun e w'=>e=.returned (.bool (wellB l))∧Below w.heap.size w w':=by
 have HQ:RowKit.Hid (∀ w',Below w.heap.size w w'→(fun (e:Ending) w'=>e=.returned (.bool (wellB l))∧Below w.heap.size w w') (.returned (.bool (wellB l))) w'):=Hd fun w' h=>⟨rfl,h⟩
 generalize (fun (e:Ending) w'=>e=.returned (.bool (wellB l))∧Below w.heap.size w w')=Q at *
 have C1:=Hd (term_well l hl v w hr)
 obtain ⟨va,vcap,rfl,hvc⟩:=hr.slice
 clear hr
 go_enter Tryz.func31,Tryz.ntmps31
 go_wp2_with fail
 refine C1.out.mono ?_
 intro e w1 h1
 unfold wellPost at h1
 obtain ⟨v1,rfl,hb1,_,a1,n1,c1,rfl⟩:=h1
 have HB1:=Hd hb1
 clear hb1 C1
 generalize wellB l=x at *
 go_wp2_with fail
 show Q (.returned (.bool x)) _
 exact HQ.out _ HB1.out
end Go.Proofs.YtmklemelgdilkaaGreatDoor
