/- Layer 11: the program's functions, walked: ends, well, Well. -/
import Derived.Test.YtbjkdmbcpkopjaaGreatDoorCoreMt
import Derived.Deep.QuietTactic
import Derived.BigQuiet
import Derived.Deep.Cut
namespace Go.Proofs.YtbjkdmbcpkopjaaGreatDoor
set_option maxRecDepth 100000
set_option maxHeartbeats 32000000
set_option linter.all false
open Go.RowKit

theorem kQ:(Tryz.prog.info? 3).map (fun i=>(i.zero,i.size,i.bytes))=some (some (.int .i64 0),1,8):=by kernel_rfl
theorem fX (n:Nat) (hn:n≤1000000000) (w:World) :
  (Instr.makeSlice 54 (.int .i64 (n:Int)) (.int .i64 (n:Int))).run Tryz.prog w=.ok (.slice (some ⟨w.heap.size,0,none⟩) n n) (w.alloc (.cells ((List.replicate n (0:Int)).map (Value.int .i64)).toArray 3)):=by
 obtain ⟨i,hi,hz,hsz,hb⟩:=info_parts kQ;have hr:=run_make (P:=Tryz.prog) w 54 3 i (.int .i64 0) Tryz.underlying54 hi hz .i64 .i64 (n:Int) (n:Int) (by omega) (Int.le_refl _) (by rw [hb];omega) (by omega);rw [hsz] at hr;have e:madeCells (Value.int .i64 0).cells ((n:Int).toNat*1)=((List.replicate n (0:Int)).map (Value.int .i64)).toArray:=by
  apply Array.ext';rw [Int.toNat_natCast,Nat.mul_one];show (madeCells #[.int .i64 0] n).toList=_;rw [toList_madeCells_one,List.map_replicate]
 rw [e] at hr
 simpa using hr
theorem kR {w:World} {a:Addr} {b i:Nat} (h:b≠a.block) (u:Value):(w.setCell a u).cell? ⟨b,i,none⟩=w.cell? ⟨b,i,none⟩:=by
 simp only [World.cell?,heap_setCell_other _ _ _ _ h]
theorem jM {w:World} {B:Nat} {a:Option Addr} {e:TypeId} {size n cap:Nat} {xs:List Value} (h:w.ownsRow B e size (.slice a n cap) n xs) {k:Nat} (hk:k≤n):w.ownsRow B e size (.slice a k cap) k (xs.take (k*size)):=by
 obtain ⟨h1,h2⟩:=h;have hm:k*size≤n*size:=Nat.mul_le_mul_right _ hk;refine ⟨by rw [List.length_take];omega,?_⟩;rcases h2 with ⟨hv,hn⟩ | ⟨g,cap',cur,hv,hg,hh,hnc,hcm,hcs,htk⟩
 ·subst hn;obtain rfl:k=0:=by omega
  exact Or.inl ⟨hv,rfl⟩
 ·simp only [Value.slice.injEq,true_and] at hv;obtain ⟨rfl,rfl⟩:=hv;refine Or.inr ⟨g,cap,cur,rfl,hg,hh,by omega,hcm,hcs,?_⟩;rw [← htk,List.take_take,Nat.min_eq_left hm]
theorem kH {w:World} {B:Nat} {a:Option Addr} {e:TypeId} {size n m cap:Nat} {xs:List Value} (h:w.ownsRow B e size (.slice a m cap) n xs) (hn:0<n):∃ g,a=some ⟨g,0,none⟩:=by
 rcases h.2 with ⟨_,h0⟩ | ⟨g,cap',cur,hv,_⟩
 ·omega
 ·simp only [Value.slice.injEq] at hv;exact ⟨g,hv.1⟩
def partV (p:Prt):List Value:=[.int .u8 (p.1:Int),.int .i64 p.2.1,.string p.2.2]
def yF (l:List Prt):List Value:=l.flatMap partV
theorem vN (l:List Prt):(yF l).length=l.length*3:=by
 induction l with
 | nil=>rfl
 | cons p l ih=>show (partV p++yF l).length=_;rw [lA,ih,lC];show 3+_=_;omega
theorem kZ (a b:List Prt):yF (a++b)=yF a++yF b:=by unfold yF;rw [List.flatMap_append]
theorem zKk:∀ (l:List Prt) (i:Nat) (hi:i<l.length),(yF l)[i*3]?=some (.int .u8 (l[i].1:Int))∧(yF l)[i*3+1]?=some (.int .i64 l[i].2.1)∧(yF l)[i*3+2]?=some (.string l[i].2.2)
 | p::l,0,_=>⟨rfl,rfl,rfl⟩
 | p::l,i+1,hi=>by
  have:=zKk l i (by simpa using hi);have e:yF (p::l)=partV p++yF l:=rfl;rw [e];simp only [List.getElem_cons_succ];rw [List.getElem?_append_right (by simp [partV];omega),List.getElem?_append_right (by simp [partV];omega),List.getElem?_append_right (by simp [partV];omega)];have e1:(i+1)*3-(partV p).length=i*3:=by simp [partV];omega
  have e2:(i+1)*3+1-(partV p).length=i*3+1:=by simp [partV];omega
  have e3:(i+1)*3+2-(partV p).length=i*3+2:=by simp [partV];omega
  rw [e1,e2,e3];exact this
def zF (w:World) (v:Value) (l:List Prt):Prop:=Row w v l.length 3 (yF l)
theorem zF.below {w w':World} {v:Value} {l:List Prt} (h:zF w v l) (hb:Below w.heap.size w w'):zF w' v l:=Row.below h hb
theorem zF.slice {w:World} {v:Value} {l:List Prt} (h:zF w v l):∃ a cap,v=.slice a l.length cap∧l.length≤cap:=by
 obtain ⟨_,a,cap,hv,hc,_⟩:=h;exact ⟨a,cap,hv,hc⟩
theorem zF.at {w w':World} {a:Option Addr} {n cap:Nat} {l:List Prt} (h:zF w (.slice a n cap) l) (hb:Below w.heap.size w w') (hp:0<l.length) :
  ∃ b off,a=some ⟨b,off,Option.none⟩∧n=l.length∧l.length≤cap∧b<w.heap.size∧∀ i (hi:i<l.length),w'.cell? ⟨b,off+i*3,Option.none⟩=some (.int .u8 (l[i].1:Int))∧w'.cell? ⟨b,off+i*3+1,Option.none⟩=some (.int .i64 l[i].2.1)∧w'.cell? ⟨b,off+i*3+2,Option.none⟩=some (.string l[i].2.2):=by
 obtain ⟨h1,a',cap',hv,hc,_,h2⟩:=h;simp only [Value.slice.injEq] at hv;obtain ⟨rfl,rfl,rfl⟩:=hv;obtain ⟨b,off,ha,hbl,hcell⟩:=h2 hp;refine ⟨b,off,ha,rfl,hc,hbl,fun i hi=>?_⟩;obtain ⟨g1,g2,g3⟩:=zKk l i hi;refine ⟨?_,?_,?_⟩
 ·rw [hb.cell (p:=⟨b,off+i*3,Option.none⟩) hbl,hcell _ (by omega)];exact g1
 ·rw [hb.cell (p:=⟨b,off+i*3+1,Option.none⟩) hbl,Nat.add_assoc,hcell _ (by omega)];exact g2
 ·rw [hb.cell (p:=⟨b,off+i*3+2,Option.none⟩) hbl,Nat.add_assoc,hcell _ (by omega)];exact g3
def endsL (l:List Prt):List Int:=(List.range l.length).map fun i=>(zB l i:Int)
theorem zBh {l:List Prt} {j:Nat} (hj:j<l.length):(endsL l)[j]?=some (zB l j:Int):=by simp [endsL,hj]
theorem yC (l:List Prt):(endsL l).length=l.length:=by simp [endsL]
@[irreducible] def endsPost (l:List Prt) (w0:World) (e:Ending) (w':World):Prop :=
 match zD l with
 | some ts=>∃ v,e=.returned (.tuple #[v,.int .i64 (ts.length:Int),.bool true])∧Below w0.heap.size w0 w'∧zI w' v .i64 (endsL l)
 | none=>e=.returned (.tuple #[.slice none 0 0,.int .i64 0,.bool false])∧Below w0.heap.size w0 w'
def endsRel (l:List Prt) (w:World) (op j:Value) (wr:World):Prop :=
 ∃ (k:Nat) (ts:List Nat) (E:List Int),j=.int .i64 ((k:Int)-1)∧k≤l.length∧zD (l.drop k)=some ts∧E.length=l.length∧(∀ i,k≤i→i<l.length→E.getD i 0=(zB l i:Int)) ∧
  wr.heap[w.heap.size]?=some (.cells (E.map (Value.int .i64)).toArray 3 (0,0))∧wr.ownsRow (w.heap.size+1) 3 1 op ts.length ((starts k ts).reverse.map fun (x:Nat)=>Value.int .i64 (x:Int))∧Below w.heap.size w wr
theorem zIg {l:List Prt} {w Wx w':World} {B i q:Nat} {ts:List Nat} {E:List Int} {oa:Option Addr} {oc:Nat} {v':Value} (hB:w.heap.size=B) (hil:i<l.length) (hrow:zD (l.drop i)=some ((1+(ts.take q).sum)::ts.drop q))
  (hst:i::(starts (i+1) ts).drop q=starts i ((1+(ts.take q).sum)::ts.drop q)) (hq:q≤ts.length) (hEl:E.length=l.length) (hE:∀ j,i+1≤j→j<l.length→E.getD j 0=(zB l j:Int))
  (hx1:Wx.heap[B]?=some (.cells ((E.set i (zB l i:Int)).map (Value.int .i64)).toArray 3 (0,0))) (hx3:Below B w Wx)
  (n:Nat) (hn:n=ts.length-q) (xs ys:List Value) (hxs:xs=((starts (i+1) ts).reverse.map fun (x:Nat)=>Value.int .i64 (x:Int)).take (n*1))
  (hx2:Wx.ownsRow (B+1) 3 1 (.slice oa n oc) n xs)
  (hown:w'.ownsRow (B+1) 3 1 v' (n+1) ys) (hys:ys=xs++[.int .i64 (i:Int)])
  (hg:(Wx.alloc (.cells #[.int .i64 (i:Int)] 3)).grownBy w' (Value.slice oa n oc).ownBlock):endsRel l w v' (.int .i64 ((i:Int)-1)) w':=by
 have hlt:=lt_of_block hx1;subst hys hxs hn;refine ⟨i,_,E.set i (zB l i:Int),rfl,by omega,hrow,by rw [List.length_set];exact hEl,fun j h1 h2=>?_,?_,?_,?_⟩
 ·rw [gD,List.getElem?_set];by_cases e:i=j
  ·subst e;rw [iP rfl,iP (by omega)];rfl
  ·rw [iN e,← gD];exact hE j (by omega) h2
 ·rw [hB,hg.block B (by simp;omega) (fun e=>by have:=hx2.lt B e.symm;omega),Below.heap_alloc _ _ _ hlt];exact hx1
 ·rw [hB];have e1:(starts i ((1+(ts.take q).sum)::ts.drop q)).reverse.map (fun (x:Nat)=>Value.int .i64 (x:Int))=((starts (i+1) ts).reverse.map fun (x:Nat)=>Value.int .i64 (x:Int)).take ((ts.length-q)*1)++[.int .i64 (i:Int)]:=by
   rw [← hst,List.reverse_cons,List.map_append,Nat.mul_one,← List.map_take,List.take_reverse,yX,show ts.length-(ts.length-q)=q by omega];rfl
  rw [e1,show ((1+(ts.take q).sum)::ts.drop q).length=ts.length-q+1 by rw [lC,List.length_drop]];exact hown
 ·rw [hB];exact vU hx3 (by omega) (vV hx2 (Nat.le_succ B)) hg
theorem zWj {l:List Prt} {i q:Nat} {ts:List Nat} (hts:zD (l.drop (i+1))=some ts) (hq:0<q) (hql:q≤ts.length) (hEi:zB l i=i+(1+(ts.take q).sum)) :
  ∃ s,i<s∧s<l.length∧zB l s=zB l i∧((starts (i+1) ts).reverse.map fun (x:Nat)=>Value.int .i64 (x:Int))[ts.length-q]?=some (.int .i64 (s:Int)):=by
 obtain ⟨r,rfl⟩:∃ r,q=r+1:=⟨q-1,by omega⟩;have hk:=kS r hts (by omega);rw [List.drop_drop] at hk;have hd:ts.drop r=ts[r]::ts.drop (r+1):=List.drop_eq_getElem_cons (by omega);have hsum:(ts.take (r+1)).sum=(ts.take r).sum+ts[r]:=by rw [List.take_succ_eq_append_getElem (by omega),List.sum_append];simp
 have hpos:=(zU hts).2.2 ts[r] (gM (by omega));have hh:=yW (hk.trans (congrArg some hd));refine ⟨i+1+(ts.take r).sum,by omega,?_,?_,?_⟩
 ·have h1:=(zU hk).1;rw [hd,List.sum_cons,List.length_drop] at h1;omega
 ·rw [hEi,hsum];unfold zB;rw [hh];omega
 ·have hz:=yX ts (i+1);rw [List.getElem?_map,List.getElem?_reverse (by omega),hz,show ts.length-1-(ts.length-(r+1))=r by omega];have:=zBz ts (i+1) r (by omega);rw [gD,gE (by omega)] at this;rw [gE (by omega)];simp only [Option.getD_some] at this;rw [this];rfl
theorem zWk (l:List Prt) (hl:l.length≤1000000000) (v:Value) (w:World) (hr:zF w v l) :
  Calls Tryz.prog 68 #[v] w (endsPost l w):=by
 have HQ:Hid (∀ v' ts w',zD l=some ts→Below w.heap.size w w'→zI w' v' .i64 (endsL l)→endsPost l w (.returned (.tuple #[v',.int .i64 (ts.length:Int),.bool true])) w'):=Hd fun v' ts w' h1 h2 h3=>by
  unfold endsPost;rw [h1];exact ⟨v',rfl,h2,h3⟩
 have HN:Hid (∀ w',zD l=none→Below w.heap.size w w'→endsPost l w (.returned (.tuple #[.slice none 0 0,.int .i64 0,.bool false])) w'):=Hd fun w' h1 h2=>by
  unfold endsPost;rw [h1];exact ⟨rfl,h2⟩
 generalize endsPost l w=Q at *;have HR:=Hd hr;obtain ⟨va,vcap,rfl,hvc⟩:=hr.slice;clear hr;have hmk:=fX l.length hl;have hwl:IntKind.i64.wrap ((l.length:Int)-1)=(l.length:Int)-1:=wI (by omega);go_enter Tryz.func68,Tryz.ntmps68;go_wp2_with fail;have HK0:Hid ((w.alloc (.cells (Array.replicate l.length (Value.int .i64 0)) 3)).heap[w.heap.size]?=some (.cells ((List.replicate l.length (0:Int)).map (Value.int .i64)).toArray 3 (0,0))):=Hd (by
  have:=heap_alloc_new w (.cells (Array.replicate l.length (Value.int .i64 0)) 3);rw [this,List.map_replicate,List.toArray_replicate])
 have HB0:Hid (Below w.heap.size w (w.alloc (.cells (Array.replicate l.length (Value.int .i64 0)) 3))):=Hd ((bR _ _).alloc (nR _) _);generalize w.alloc (.cells (Array.replicate l.length (Value.int .i64 0)) 3)=W0 at *;generalize hBB:w.heap.size=B at *;have HBB:=Hd hBB;clear hBB;go_loopw [6,7] (fun op j wr=>endsRel l w op j wr) (fun _ j _=>(intOf j+1).toNat)
 case atStart =>
  refine ⟨l.length,[],List.replicate l.length 0,rfl,nR _,by rw [List.drop_length];rfl,by simp,fun i h1 h2=>by omega,?_,?_,?_⟩
  ·rw [HBB.out];exact HK0.out
  ·exact World.ownsRow_nil _ _ _ _
  ·rw [HBB.out];exact HB0.out
 case round =>
  obtain ⟨k,ts,E,rfl,hk,hts,hEl,hEq,hh,ho,hb⟩:=hrel;rw [HBB.out] at hh ho hb;have HB:=Hd hb;have HH:=Hd hh;have HO:=Hd ho;have HTS:=Hd hts;have HEQ:=Hd hEq;have HEL:=Hd hEl;obtain ⟨_,oa,oc,rfl,hoc,_,_⟩:=Row.of_owns ho;have htl:ts.length≤l.length:=by have:=(zU hts).2.1;rw [List.length_drop] at this;omega
  have hBlt:B<wr.heap.size:=lt_of_block hh;clear hb hh ho hEq hEl hts;by_cases hk0:0<k
  ·obtain ⟨i,rfl⟩:∃ i,k=i+1:=⟨k-1,by omega⟩;rw [show (((i+1:Nat):Int)-1)=(i:Int) by omega];have hil:i<l.length:=hk;obtain ⟨b,off,rfl,_,_,hbl,hcell⟩:=HR.out.at (HBB.out ▸ HB.out) (show 0<l.length by omega);have c0:=(hcell i hil).2.1;have hdr:l.drop i=l[i]::l.drop (i+1):=List.drop_eq_getElem_cons hil;have HDR:=Hd hdr;have hi0:(0:Int)≤i:=by omega
   have hil':(i:Int)<l.length:=by omega
   have hic:(i:Int)<vcap:=by omega
   have hge:¬ (i:Int)<0:=by omega
   clear hcell hdr hk0;have hbad:¬ (0≤(l[i]).2.1∧(l[i]).2.1≤(ts.length:Int))→zD l=none:=fun hc=>by
    cases hr:zD l with
    | none=>rfl
    | some us =>
     obtain ⟨vs,hvs⟩:=gG hr i;rw [HDR.out,zKl HTS.out hc] at hvs;cases hvs
   have hgood:0≤(l[i]).2.1∧(l[i]).2.1≤(ts.length:Int)→zD (l.drop i)=some ((1+(ts.take (l[i]).2.1.toNat).sum)::ts.drop (l[i]).2.1.toNat):=fun hc=>by
    rw [HDR.out];exact gF HTS.out hc.1 hc.2
   have HBAD:=Hd hbad;have HGOOD:=Hd hgood;have HST:=Hd (fun (h:(l[i]).2.1≤(ts.length:Int))=>zPo (p:=l[i]) i h);clear hbad hgood;generalize (l[i]).2.1=x at *;by_cases hx0:x<0
   ·go_wp2_with fail;exact HN.out _ (HBAD.out (fun h=>by omega)) (HBB.out ▸ HB.out)
   ·by_cases hx1:(ts.length:Int)<x
    ·go_wp2_with fail;exact HN.out _ (HBAD.out (fun h=>by omega)) (HBB.out ▸ HB.out)
    ·have hg:=HGOOD.out ⟨by omega,by omega⟩;have hst:=HST.out (by omega);obtain ⟨q,rfl⟩:∃ q:Nat,x=q:=⟨x.toNat,by omega⟩;rw [Int.toNat_natCast] at hg hst;have HG:=Hd hg;have HS:=Hd hst;have hEi:zB l i=i+(1+(ts.take q).sum):=by unfold zB;rw [yW hg]
     have HEI:=Hd hEi;clear hg hst hEi HBAD HGOOD HST;have c1:wr.cell? ⟨B,i,none⟩=some (.int .i64 (E.getD i 0)):=by
      simp [World.cell?,HH.out,HEL.out,hil,gD]
     have z1:wr.frozen? ⟨B,i,none⟩=false:=by simp [World.frozen?,HH.out]
     have hwi:IntKind.i64.wrap ((i:Int)+1)=(i:Int)+1:=wI (by omega);have hwm:IntKind.i64.wrap ((i:Int)-1)=(i:Int)-1:=wI (by omega);have hwq:IntKind.i64.wrap ((ts.length:Int)-(q:Int))=(ts.length:Int)-(q:Int):=wI (by omega);have hq0:(0:Int)≤(ts.length:Int)-(q:Int):=by omega
     have hqc:(ts.length:Int)-(q:Int)≤oc:=by omega
     have hqn:((ts.length:Int)-(q:Int)).toNat=ts.length-q:=by omega
     have hql:q≤ts.length:=by omega
     have HQL:=Hd hql;have hs0:∀ W' u,W'=wr.setCell ⟨B,i,none⟩ u→W'.ownsRow (B+1) 3 1 (.slice oa ts.length oc) ts.length ((starts (i+1) ts).reverse.map fun (x:Nat)=>Value.int .i64 (x:Int))∧Below B w W':=fun W' u e=>by
      subst e;exact ⟨ownsRow_setCell_below HO.out (Nat.lt_succ_self B) u,HB.out.setCell (p:=⟨B,i,none⟩) (nR _) u⟩
     have hh1:∀ x:Int,(wr.setCell ⟨B,i,none⟩ (.int .i64 x)).heap[B]?=some (.cells ((E.set i x).map (Value.int .i64)).toArray 3 (0,0)):=fun x=>by
      rw [heap_setCell_same _ _ _ _ _ _ HH.out,List.setIfInBounds_toArray,← List.map_set]
     by_cases hq:0<q
     ·obtain ⟨s,hs1,hs2,hs3,hs4⟩:=zWj HTS.out hq hql HEI.out;obtain ⟨g,rfl⟩:=kH HO.out (by omega);obtain ⟨g1,g2⟩:=hs0 _ (.int .i64 ((i:Int)+1)) rfl;have c2:(wr.setCell ⟨B,i,none⟩ (.int .i64 ((i:Int)+1))).cell? ⟨g,ts.length-q,none⟩=some (.int .i64 (s:Int)):=by
       rw [g1.cellAt _ (by omega)];exact hs4
      have c3:(wr.setCell ⟨B,i,none⟩ (.int .i64 ((i:Int)+1))).cell? ⟨B,s,none⟩=some (.int .i64 (zB l i:Int)):=by
       have:=HEQ.out s hs1 hs2;rw [hs3] at this;rw [gD] at this;simp only [World.cell?,hh1];rw [← this];simp [HEL.out,hs2,show ¬ i=s by omega]
      have c4:(wr.setCell ⟨B,i,none⟩ (.int .i64 ((i:Int)+1))).cell? ⟨B,i,none⟩=some (.int .i64 ((i:Int)+1)):=by
       simp only [World.cell?,hh1];simp [HEL.out,hil]
      have z4:(wr.setCell ⟨B,i,none⟩ (.int .i64 ((i:Int)+1))).frozen? ⟨B,i,none⟩=false:=by simp [World.frozen?,hh1]
      have HX1:Hid (((wr.setCell ⟨B,i,none⟩ (.int .i64 ((i:Int)+1))).setCell ⟨B,i,none⟩ (.int .i64 (zB l i:Int))).heap[B]?=some (.cells ((E.set i (zB l i:Int)).map (Value.int .i64)).toArray 3 (0,0))):=Hd (by
       rw [heap_setCell_same _ _ _ _ _ _ (hh1 _),List.setIfInBounds_toArray,← List.map_set,List.set_set])
      have HX2:=Hd (jM (ownsRow_setCell_below g1 (a:=⟨B,i,none⟩) (Nat.lt_succ_self B) (.int .i64 (zB l i:Int))) (k:=ts.length-q) (by omega));have HXB:=Hd (g2.setCell (p:=⟨B,i,none⟩) (nR _) (.int .i64 (zB l i:Int)));have hsz:B+1≤((wr.setCell ⟨B,i,none⟩ (.int .i64 ((i:Int)+1))).setCell ⟨B,i,none⟩ (.int .i64 (zB l i:Int))).heap.size:=by simp;omega
      have hq0i:(0:Int)<(q:Int):=by omega
      have hq1i:(ts.length:Int)-(q:Int)<ts.length:=by omega
      have hs0i:(0:Int)≤(s:Int):=by omega
      have hs2i:(s:Int)<l.length:=by omega
      clear hs4 hs3 g1 g2 hs0 hh1;have HEJ:Hid (∃ z,z=zB l i):=Hd ⟨_,rfl⟩;generalize hee:zB l i=ee at *;have HEE:=Hd hee;clear hee;go_upto_region 12 with (fail);clear c2 c3 c4 z4 c1 z1 c0;generalize (wr.setCell ⟨B,i,none⟩ (.int .i64 ((i:Int)+1))).setCell ⟨B,i,none⟩ (.int .i64 (ee:Int))=Wx at *;go_wp2_with (at_builtin;refine yA Wx #[.int .i64 (i:Int)] _ rfl _ _ 54 3 rfl Tryz.underlying54 (B+1) kQ rfl (by decide) _ _ _ rfl HX2.out 1 1 rfl rfl (by decide) (by intro u hu;simp at hu;subst hu;rfl) (by omega) (by omega) hsz ?_);intro v' w' hown hgr _;obtain ⟨_,va',vc',rfl,_,_,_⟩:=Row.of_owns hown;have HX1':Hid (Wx.heap[B]?=some (.cells ((E.set i (zB l i:Int)).map (Value.int .i64)).toArray 3 (0,0))):=Hd (by rw [HEE.out];exact HX1.out);have HR1:=Hd (zIg HBB.out hil HG.out HS.out HQL.out HEL.out HEQ.out HX1'.out HXB.out (ts.length-q) rfl _ _ rfl HX2.out hown (by simp) hgr);clear hown hgr;go_wp2_with fail;refine ⟨HR1.out,?_⟩;simp only [intOf];omega
     ·obtain rfl:q=0:=by omega
      obtain ⟨g1,g2⟩:=hs0 _ (.int .i64 ((i:Int)+1)) rfl;have hX2:=jM g1 (k:=ts.length) (nR _);have HX2:=Hd hX2;have HXB:=Hd g2;have HX1:Hid ((wr.setCell ⟨B,i,none⟩ (.int .i64 ((i:Int)+1))).heap[B]?=some (.cells ((E.set i (zB l i:Int)).map (Value.int .i64)).toArray 3 (0,0))):=Hd (by
       rw [HEI.out,List.take_zero,List.sum_nil];exact hh1 _)
      have hsz:B+1≤(wr.setCell ⟨B,i,none⟩ (.int .i64 ((i:Int)+1))).heap.size:=by simp;omega
      clear hX2 g1 g2 hs0 hh1;go_upto_region 12 with (fail);generalize wr.setCell ⟨B,i,none⟩ (.int .i64 ((i:Int)+1))=Wx at *;go_wp2_with (at_builtin;refine yA Wx #[.int .i64 (i:Int)] _ rfl _ _ 54 3 rfl Tryz.underlying54 (B+1) kQ rfl (by decide) _ _ _ rfl HX2.out 1 1 rfl rfl (by decide) (by intro u hu;simp at hu;subst hu;rfl) (by omega) (by omega) hsz ?_);intro v' w' hown hgr _;obtain ⟨_,va',vc',rfl,_,_,_⟩:=Row.of_owns hown;have HR1:=Hd (zIg HBB.out hil HG.out HS.out (Nat.zero_le _) HEL.out HEQ.out HX1.out HXB.out ts.length (Nat.sub_zero _).symm _ _ rfl HX2.out hown (by simp) hgr);clear hown hgr;go_wp2_with fail;refine ⟨HR1.out,?_⟩;simp only [intOf];omega
  ·obtain rfl:k=0:=by omega
   rw [show (((0:Nat):Int)-1)=-1 by rfl];go_wp2_with fail;have hEL:E=endsL l:=by
    apply List.ext_getElem
    ·rw [HEL.out];simp [endsL]
    ·intro i h1 h2;have:=HEQ.out i (Nat.zero_le _) (by rw [← HEL.out];exact h1);rw [gD,gE h1] at this;simp only [Option.getD_some] at this;rw [this];simp [endsL]
   show Q (.returned (.tuple #[.slice (some ⟨B,0,none⟩) l.length l.length,.int .i64 (ts.length:Int),.bool true])) wr;refine HQ.out _ ts _ (by have:=HTS.out;rwa [List.drop_zero] at this) (HBB.out ▸ HB.out) ?_;have hh:=HH.out;rw [hEL] at hh;have hz:(endsL l).length=l.length:=by simp [endsL]
   refine ⟨by simp,_,_,by rw [hz],by rw [hz];exact nR _,by simp,fun hn=>⟨B,0,rfl,hBlt,fun i hi=>?_⟩⟩;rw [Nat.zero_add];simp only [World.cell?,hh];simp
@[irreducible] def wellPost (l:List Prt) (w0:World) (e:Ending) (w':World):Prop :=
 ∃ v,e=.returned (.tuple #[v,.bool (zV l)])∧Below w0.heap.size w0 w'∧(zV l=true→zI w' v .i64 (endsL l))∧∃ a n c,v=.slice a n c
theorem yAj {l:List Prt} {ts:List Nat} (h:zD l=some ts):zV l=decide (ts.length=1):=by
 unfold zV;rw [h];match ts with
 | []=>rfl
 | [_]=>rfl
 | _::_::_=>simp
theorem zSr {l:List Prt} (h:zD l=none):zV l=false:=by unfold zV;rw [h]
theorem zWl (l:List Prt) (hl:l.length≤1000000000) (v:Value) (w:World) (hr:zF w v l) :
  Calls Tryz.prog 47 #[v] w (wellPost l w):=by
 have HQ:Hid (∀ v' x w',zV l=x→Below w.heap.size w w'→(zV l=true→zI w' v' .i64 (endsL l))→(∃ a n c,v'=.slice a n c)→wellPost l w (.returned (.tuple #[v',.bool x])) w'):=Hd fun v' x w' h1 h2 h3 h4=>by
  unfold wellPost;rw [h1];exact ⟨v',rfl,h2,by rw [← h1];exact h3,h4⟩
 generalize wellPost l w=Q at *;have C1:=Hd (zWk l hl v w hr);obtain ⟨va,vcap,rfl,hvc⟩:=hr.slice;clear hr;go_enter Tryz.func47,Tryz.ntmps47;go_wp2_with fail;refine C1.out.mono ?_;intro e w1 h1;unfold endsPost at h1;cases hrow:zD l with
 | some ts =>
  rw [hrow] at h1;obtain ⟨v1,rfl,hb1,hr1⟩:=h1;have HB1:=Hd hb1;have HR1:=Hd hr1;have hw:=yAj hrow;obtain ⟨a1,c1,rfl,_,_⟩:=hr1.open';clear hb1 hr1 C1;by_cases ht:ts.length=1
  ·have htb:((ts.length:Int) == 1)=true:=by rw [beq_iff_eq];omega
   have HW:=Hd (hw.trans (decide_eq_true ht));clear hw ht;go_wp2_with fail;exact HQ.out _ _ _ HW.out HB1.out (fun _=>HR1.out) ⟨_,_,_,rfl⟩
  ·have htb:((ts.length:Int) == 1)=false:=by rw [bE];omega
   have HW:=Hd (hw.trans (decide_eq_false ht));clear hw ht;go_wp2_with fail;exact HQ.out _ _ _ HW.out HB1.out (fun _=>HR1.out) ⟨_,_,_,rfl⟩
 | none =>
  rw [hrow] at h1;obtain ⟨rfl,hb1⟩:=h1;have HB1:=Hd hb1;have HW:=Hd (zSr hrow);clear hb1 C1;go_wp2_with fail;exact HQ.out _ _ _ HW.out HB1.out (fun h=>by rw [HW.out] at h;cases h) ⟨_,_,_,rfl⟩
theorem zDu (l:List Prt) (hl:l.length≤1000000000) (v:Value) (w:World) (hr:zF w v l) :
  Calls Tryz.prog 30 #[v] w fun e w'=>e=.returned (.bool (zV l))∧Below w.heap.size w w':=by
 have HQ:Hid (∀ w',Below w.heap.size w w'→(fun (e:Ending) w'=>e=.returned (.bool (zV l))∧Below w.heap.size w w') (.returned (.bool (zV l))) w'):=Hd fun w' h=>⟨rfl,h⟩
 generalize (fun (e:Ending) w'=>e=.returned (.bool (zV l))∧Below w.heap.size w w')=Q at *;have C1:=Hd (zWl l hl v w hr);obtain ⟨va,vcap,rfl,hvc⟩:=hr.slice;clear hr;go_enter Tryz.func30,Tryz.ntmps30;go_wp2_with fail;refine C1.out.mono ?_;intro e w1 h1;unfold wellPost at h1;obtain ⟨v1,rfl,hb1,_,a1,n1,c1,rfl⟩:=h1;have HB1:=Hd hb1;clear hb1 C1;generalize zV l=x at *;go_wp2_with fail;show Q (.returned (.bool x)) _;exact HQ.out _ HB1.out
theorem drewB {B:Nat} {a w:World} (h:Below B a w) (n:Nat):Below B a (w.drewN n):=⟨h.os,h.tape,h.output,h.size,h.block⟩
def TellsEq (x:Bool) (a b:List Prt):Prop:=x=true↔a=b
def PK (W:World) (g:Nat) (p:Prt):Prop:=W.heap[g]?=some (.cells #[.int .u8 (p.1:Int),.int .i64 p.2.1,.string p.2.2] 53 (0,0))
theorem PK.c0 {W:World} {g:Nat} {p:Prt} (h:PK W g p):W.cell? ⟨g,0,none⟩=some (.int .u8 (p.1:Int)):=by unfold PK at h;simp [World.cell?,h]
theorem PK.c1 {W:World} {g:Nat} {p:Prt} (h:PK W g p):W.cell? ⟨g,1,none⟩=some (.int .i64 p.2.1):=by unfold PK at h;simp [World.cell?,h]
theorem PK.c2 {W:World} {g:Nat} {p:Prt} (h:PK W g p):W.cell? ⟨g,2,none⟩=some (.string p.2.2):=by unfold PK at h;simp [World.cell?,h]
theorem PK.keep {W W':World} {g:Nat} {p:Prt} (h:PK W g p) (hb:Below W.heap.size W W'):PK W' g p:=by unfold PK at h ⊢;rw [hb.block g (lt_of_block h)];exact h
theorem PK.alloc_new (W:World) (p:Prt):PK (W.alloc (.cells #[.int .u8 (p.1:Int),.int .i64 p.2.1,.string p.2.2] 53)) W.heap.size p:=by unfold PK;exact heap_alloc_new _ _
def sameRel (a b:List Prt) (w:World) (i:Value) (wr:World):Prop:=∃ k:Nat,i=.int .i64 (k:Int)∧k≤a.length∧a.take k=b.take k∧Below w.heap.size w wr
theorem zIi (v1 v2:Value) (a b:List Prt) (hla:a.length≤1000000000) (hlb2:b.length≤1000000000) (w:World) (hr1:zF w v1 a) (hr2:zF w v2 b) :
  Calls Tryz.prog 17 #[v1,v2] w fun e w'=>∃ x,e=.returned (.bool x)∧TellsEq x a b∧Below w.heap.size w w':=by
 have HQ:Hid (∀ x w',TellsEq x a b→Below w.heap.size w w'→(fun (e:Ending) w'=>∃ x,e=.returned (.bool x)∧TellsEq x a b∧Below w.heap.size w w') (.returned (.bool x)) w'):=Hd fun x w' h h2=>⟨x,rfl,h,h2⟩
 generalize (fun (e:Ending) w'=>∃ x,e=.returned (.bool x)∧TellsEq x a b∧Below w.heap.size w w')=Q at *;have HR1:=Hd hr1;have HR2:=Hd hr2;obtain ⟨a1,cap1,rfl,hcap1⟩:=hr1.slice;obtain ⟨a2,cap2,rfl,hcap2⟩:=hr2.slice;clear hr1 hr2;go_enter Tryz.func17,Tryz.ntmps17;by_cases hl:a.length=b.length
 ·have hlb:((a.length:Int) == (b.length:Int))=true:=by rw [beq_iff_eq];omega
  have hlc:((a.length:Int) != (b.length:Int))=false:=by rw [bne_eq_false_iff_eq];omega
  have hld:(a.length != b.length)=false:=by rw [bne_eq_false_iff_eq];exact hl
  have HL:=Hd hl;clear hl;go_wp2_with fail;go_loopw [5] (fun i wr=>sameRel a b w i wr) (fun i _=>a.length-(intOf i).toNat)
  case atStart=>exact ⟨0,rfl,Nat.zero_le _,rfl,bR _ _⟩
  case round =>
   obtain ⟨k,rfl,hk,htk,hb⟩:=hrel;have HB:=Hd hb;have HTK:=Hd htk;clear hb htk;by_cases hlt:k<a.length
   ·have hlt':(k:Int)<a.length:=by omega
    have hkb:k<b.length:=by have:=HL.out;omega
    obtain ⟨b1,o1,rfl,_,_,_,hc1⟩:=HR1.out.at HB.out (show 0<a.length by omega);obtain ⟨b2,o2,rfl,_,_,_,hc2⟩:=HR2.out.at HB.out (show 0<b.length by omega);obtain ⟨d0,d1,d2⟩:=hc1 k hlt;obtain ⟨e0,e1,e2⟩:=hc2 k hkb;have hk0:(0:Int)≤k:=by omega
    have hlt2:(k:Int)<b.length:=by omega
    have hkc1:(k:Int)<cap1:=by omega
    have hkc2:(k:Int)<cap2:=by omega
    have hwk:IntKind.i64.wrap ((k:Int)+1)=((k+1:Nat):Int):=wI (by omega);have HK1:Hid (k+1≤a.length):=Hd hlt;have HML:Hid (a.length-(k+1)<a.length-k):=Hd (by omega);have HX:=Hd (fun (h:a[k]=b[k])=>show a.take (k+1)=b.take (k+1) by
     rw [List.take_succ_eq_append_getElem hlt,List.take_succ_eq_append_getElem hkb,HTK.out];exact congrArg (fun z=>List.take k b++[z]) h)
    have HY:=Hd (fun (h:a[k]≠b[k])=>show TellsEq false a b from ⟨(fun e=>by cases e),fun e=>absurd (by subst e;rfl) h⟩);clear hc1 hc2;generalize a[k]=x at *;generalize hye:b[k]=y at *;have HYE:=Hd hye;clear hye;obtain ⟨xk,xn,xw⟩:=x;obtain ⟨yk,yn,yw⟩:=y;simp only [] at d0 d1 d2 e0 e1 e2;have HB1:=HB;by_cases hE:xk=yk∧xn=yn∧xw=yw
    ·obtain ⟨rfl,rfl,rfl⟩:=hE;have HTK1:=Hd (HX.out rfl);clear HX HY;go_wp2_with fail;go_quiet (fail);have HB2:=Hd (drewB HB1.out nq);go_wp2_with fail;have HR:Hid (sameRel a b w (.int .i64 ((k+1:Nat):Int)) _):=Hd ⟨k+1,rfl,HK1.out,HTK1.out,HB2.out⟩;refine ⟨?_,(by have:=HML.out;simp [intOf];try omega)⟩;first
      | exact HR.out
      | (repeat apply Exists.intro
         refine ⟨?_,rfl⟩;exact HR.out)
    ·have HF:=Hd (HY.out (fun e=>hE (by simp only [Prod.mk.injEq] at e;exact e)));clear HX HY;have hcs:xk≠yk∨(xk=yk∧xn≠yn)∨(xk=yk∧xn=yn∧xw≠yw):=by
      by_cases h1:xk=yk
      ·by_cases h2:xn=yn
       ·exact Or.inr (Or.inr ⟨h1,h2,fun h3=>hE ⟨h1,h2,h3⟩⟩)
       ·exact Or.inr (Or.inl ⟨h1,h2⟩)
      ·exact Or.inl h1
     clear hE;rcases hcs with h1 | ⟨rfl,h2⟩ | ⟨rfl,rfl,h3⟩
     ·have f1:((xk:Int) == (yk:Int))=false:=by rw [bE];omega
      have f2:(xk == yk)=false:=by rw [bE];exact h1
      go_wp2_with fail;go_quiet (fail);have HB2:=Hd (drewB HB1.out nq);go_wp2_with fail;exact HQ.out _ _ HF.out HB2.out
     ·have f1:(xn == yn)=false:=by rw [bE];exact h2
      go_wp2_with fail;go_quiet (fail);have HB2:=Hd (drewB HB1.out nq);go_wp2_with fail;exact HQ.out _ _ HF.out HB2.out
     ·have f1:(xw.toList == yw.toList)=false:=by
       rw [bE];intro e;rw [ByteArray.toList_eq,ByteArray.toList_eq] at e;exact h3 (ByteArray.ext (Array.ext' e))
      go_wp2_with fail;go_quiet (fail);have HB2:=Hd (drewB HB1.out nq);go_wp2_with fail;exact HQ.out _ _ HF.out HB2.out
   ·have hlt':¬ (k:Int)<a.length:=by omega
    have HF:Hid (TellsEq true a b):=Hd ⟨fun _=>by
     have h:=HTK.out;have hl:=HL.out;rw [List.take_of_length_le (by omega),List.take_of_length_le (by omega)] at h;exact h,fun _=>rfl⟩
    go_wp2_with fail;exact HQ.out _ _ HF.out HB.out
 ·have hlb:((a.length:Int) == (b.length:Int))=false:=by rw [bE];omega
  have hlc:((a.length:Int) != (b.length:Int))=true:=by rw [bne_iff_ne];omega
  have hld:(a.length != b.length)=true:=by rw [bne_iff_ne];exact hl
  have HF:Hid (TellsEq false a b):=Hd ⟨(fun e=>by cases e),fun e=>absurd (by rw [e]) hl⟩;go_wp2_with fail;exact HQ.out _ _ HF.out (bR _ _)
theorem zWo (v1 v2:Value) (a b:List Prt) (hla:a.length≤1000000000) (hlb2:b.length≤1000000000) (w:World) (hr1:zF w v1 a) (hr2:zF w v2 b) :
  Calls Tryz.prog 140 #[v1,v2] w fun e w'=>∃ x,e=.returned (.bool x)∧TellsEq x a b∧Below w.heap.size w w':=by
 have HQ:Hid (∀ x w',TellsEq x a b→Below w.heap.size w w'→(fun (e:Ending) w'=>∃ x,e=.returned (.bool x)∧TellsEq x a b∧Below w.heap.size w w') (.returned (.bool x)) w'):=Hd fun x w' h h2=>⟨x,rfl,h,h2⟩
 generalize (fun (e:Ending) w'=>∃ x,e=.returned (.bool x)∧TellsEq x a b∧Below w.heap.size w w')=Q at *;have HR1:=Hd hr1;have HR2:=Hd hr2;obtain ⟨a1,cap1,rfl,hcap1⟩:=hr1.slice;obtain ⟨a2,cap2,rfl,hcap2⟩:=hr2.slice;clear hr1 hr2;go_enter Tryz.func140,Tryz.ntmps140;by_cases hl:a.length=b.length
 ·have hlb:((a.length:Int) == (b.length:Int))=true:=by rw [beq_iff_eq];omega
  have hlc:((a.length:Int) != (b.length:Int))=false:=by rw [bne_eq_false_iff_eq];omega
  have hld:(a.length != b.length)=false:=by rw [bne_eq_false_iff_eq];exact hl
  have HL:=Hd hl;clear hl;go_wp2_with fail;go_loopw [14] (fun i wr=>sameRel a b w i wr) (fun i _=>a.length-(intOf i).toNat)
  case atStart=>exact ⟨0,rfl,Nat.zero_le _,rfl,bR _ _⟩
  case round =>
   obtain ⟨k,rfl,hk,htk,hb⟩:=hrel;have HB:=Hd hb;have HTK:=Hd htk;clear hb htk;by_cases hlt:k<a.length
   ·have hlt':(k:Int)<a.length:=by omega
    have hkb:k<b.length:=by have:=HL.out;omega
    obtain ⟨b1,o1,rfl,_,_,_,hc1⟩:=HR1.out.at HB.out (show 0<a.length by omega);obtain ⟨b2,o2,rfl,_,_,_,hc2⟩:=HR2.out.at HB.out (show 0<b.length by omega);obtain ⟨d0,d1,d2⟩:=hc1 k hlt;obtain ⟨e0,e1,e2⟩:=hc2 k hkb;have hk0:(0:Int)≤k:=by omega
    have hlt2:(k:Int)<b.length:=by omega
    have hkc1:(k:Int)<cap1:=by omega
    have hkc2:(k:Int)<cap2:=by omega
    have hwk:IntKind.i64.wrap ((k:Int)+1)=((k+1:Nat):Int):=wI (by omega);have HK1:Hid (k+1≤a.length):=Hd hlt;have HML:Hid (a.length-(k+1)<a.length-k):=Hd (by omega);have HX:=Hd (fun (h:a[k]=b[k])=>show a.take (k+1)=b.take (k+1) by
     rw [List.take_succ_eq_append_getElem hlt,List.take_succ_eq_append_getElem hkb,HTK.out];exact congrArg (fun z=>List.take k b++[z]) h)
    have HY:=Hd (fun (h:a[k]≠b[k])=>show TellsEq false a b from ⟨(fun e=>by cases e),fun e=>absurd (by subst e;rfl) h⟩);clear hc1 hc2;generalize a[k]=x at *;generalize hye:b[k]=y at *;have HYE:=Hd hye;clear hye;obtain ⟨xk,xn,xw⟩:=x;obtain ⟨yk,yn,yw⟩:=y;simp only [] at d0 d1 d2 e0 e1 e2;have hA:Below wr.heap.size wr (wr.alloc (.cells #[.int .u8 (xk:Int),.int .i64 xn,.string xw] 53)):=(bR _ _).alloc (nR _) _;obtain ⟨b2',o2',hbb,_,_,_,hc2⟩:=HR2.out.at (HB.out.trans (hA.mono HB.out.size)) (show 0<b.length by omega);simp only [Option.some.injEq,Addr.mk.injEq,and_true] at hbb;obtain ⟨rfl,rfl⟩:=hbb;have hA2:=hc2 k hkb;rw [HYE.out] at hA2;obtain ⟨e0',e1',e2'⟩:=hA2;have HPK:=PK.alloc_new wr (xk,xn,xw);have p0:=HPK.c0;have p1:=HPK.c1;have p2:=HPK.c2;have HB1:=Hd (HB.out.trans (hA.mono HB.out.size));clear hA HPK hc2;by_cases hE:xk=yk∧xn=yn∧xw=yw
    ·obtain ⟨rfl,rfl,rfl⟩:=hE;have HTK1:=Hd (HX.out rfl);clear HX HY;go_wp2_with fail;go_quiet (fail);have HB2:=Hd (drewB HB1.out nq);go_wp2_with fail;have HR:Hid (sameRel a b w (.int .i64 ((k+1:Nat):Int)) _):=Hd ⟨k+1,rfl,HK1.out,HTK1.out,HB2.out⟩;refine ⟨?_,(by have:=HML.out;simp [intOf];try omega)⟩;first
      | exact HR.out
      | (repeat apply Exists.intro
         refine ⟨?_,rfl⟩;exact HR.out)
    ·have HF:=Hd (HY.out (fun e=>hE (by simp only [Prod.mk.injEq] at e;exact e)));clear HX HY;have hcs:xk≠yk∨(xk=yk∧xn≠yn)∨(xk=yk∧xn=yn∧xw≠yw):=by
      by_cases h1:xk=yk
      ·by_cases h2:xn=yn
       ·exact Or.inr (Or.inr ⟨h1,h2,fun h3=>hE ⟨h1,h2,h3⟩⟩)
       ·exact Or.inr (Or.inl ⟨h1,h2⟩)
      ·exact Or.inl h1
     clear hE;rcases hcs with h1 | ⟨rfl,h2⟩ | ⟨rfl,rfl,h3⟩
     ·have f1:((xk:Int) == (yk:Int))=false:=by rw [bE];omega
      have f2:(xk == yk)=false:=by rw [bE];exact h1
      go_wp2_with fail;go_quiet (fail);have HB2:=Hd (drewB HB1.out nq);go_wp2_with fail;exact HQ.out _ _ HF.out HB2.out
     ·have f1:(xn == yn)=false:=by rw [bE];exact h2
      go_wp2_with fail;go_quiet (fail);have HB2:=Hd (drewB HB1.out nq);go_wp2_with fail;exact HQ.out _ _ HF.out HB2.out
     ·have f1:(xw.toList == yw.toList)=false:=by
       rw [bE];intro e;rw [ByteArray.toList_eq,ByteArray.toList_eq] at e;exact h3 (ByteArray.ext (Array.ext' e))
      go_wp2_with fail;go_quiet (fail);have HB2:=Hd (drewB HB1.out nq);go_wp2_with fail;exact HQ.out _ _ HF.out HB2.out
   ·have hlt':¬ (k:Int)<a.length:=by omega
    have HF:Hid (TellsEq true a b):=Hd ⟨fun _=>by
     have h:=HTK.out;have hl:=HL.out;rw [List.take_of_length_le (by omega),List.take_of_length_le (by omega)] at h;exact h,fun _=>rfl⟩
    go_wp2_with fail;exact HQ.out _ _ HF.out HB.out
 ·have hlb:((a.length:Int) == (b.length:Int))=false:=by rw [bE];omega
  have hlc:((a.length:Int) != (b.length:Int))=true:=by rw [bne_iff_ne];omega
  have hld:(a.length != b.length)=true:=by rw [bne_iff_ne];exact hl
  have HF:Hid (TellsEq false a b):=Hd ⟨(fun e=>by cases e),fun e=>absurd (by rw [e]) hl⟩;go_wp2_with fail;exact HQ.out _ _ HF.out (bR _ _)
def endI (o:Option Nat):Int:=match o with
 | some e=>e
 | none=>-1
def endRel (l:List Prt) (R:Option Nat) (w:World) (i n:Value) (wr:World):Prop :=
 ∃ j m:Nat,i=.int .i64 (j:Int)∧n=.int .i64 (m:Int)∧j≤l.length∧m≤1+j*l.length∧endR l.length (l.drop j) m j=R∧wr=w
theorem zBe (l:List Prt) (hl:l.length≤1000000000) (v:Value) (i:Nat) (hi:i≤l.length) (w:World) (hr:zF w v l) :
  Calls Tryz.prog 12 #[v,.int .i64 (i:Int)] w fun e w'=>e=.returned (.int .i64 (endI (endR l.length (l.drop i) 1 i)))∧w=w':=by
 have HQ:Hid (∀ x,endR l.length (l.drop i) 1 i=x→(fun (e:Ending) w'=>e=.returned (.int .i64 (endI (endR l.length (l.drop i) 1 i)))∧w=w') (.returned (.int .i64 (endI x))) w):=Hd fun x h=>⟨by rw [h],rfl⟩
 generalize (fun (e:Ending) w'=>e=.returned (.int .i64 (endI (endR l.length (l.drop i) 1 i)))∧w=w')=Q at *;have HR:=Hd hr;obtain ⟨va,vcap,rfl,hvc⟩:=hr.slice;clear hr;have HR0:Hid (endR l.length (l.drop i) 1 i=endR l.length (l.drop i) 1 i):=Hd rfl;generalize hRR:endR l.length (l.drop i) 1 i=R at *;have HRR:=Hd hRR;clear hRR HR0;go_enter Tryz.func12,Tryz.ntmps12;go_wp2_with fail;go_loopw [1,5] (fun i n wr=>endRel l R w i n wr) (fun i _ _=>l.length-(intOf i).toNat)
 case atStart=>exact ⟨i,1,rfl,rfl,hi,by omega,HRR.out,rfl⟩
 case round =>
  obtain ⟨j,m,rfl,rfl,hj,hm,hE,rfl⟩:=hrel;have HE:=Hd hE;clear hE;have hjl:j*l.length≤1000000000000000000:=Nat.le_trans (Nat.mul_le_mul (show j≤1000000000 by omega) hl) (by decide);have HM:=Hd hm;have HJL:=Hd hjl;have hmb:m≤1000000000000000001:=by omega
  clear hm hjl;by_cases hm0:0<m
  ·have hm0':(0:Int)<m:=by omega
   obtain ⟨n,rfl⟩:∃ n,m=n+1:=⟨m-1,by omega⟩;by_cases hlt:j<l.length
   ·have hlt':(j:Int)<l.length:=by omega
    obtain ⟨b,off,rfl,_,_,_,hcell⟩:=HR.out.at (bR _ _) (show 0<l.length by omega);have c0:=(hcell j hlt).2.1;have hdr:l.drop j=l[j]::l.drop (j+1):=List.drop_eq_getElem_cons hlt;have hst:=HE.out;rw [hdr,endR] at hst;have hj0:(0:Int)≤j:=by omega
    have hjn:¬ (j:Int)<0:=by omega
    have hjc:(j:Int)<vcap:=by omega
    have hwj:IntKind.i64.wrap ((j:Int)+1)=(j:Int)+1:=wI (by omega);have hwn:IntKind.i64.wrap ((n:Int)+1-1)=(n:Int):=wI (by omega);clear hcell hdr;have HST:=Hd hst;clear hst;generalize (l[j]).2.1=x at *;by_cases hx0:x<0
    ·have hF:R=none:=by rw [← HST.out,iN (by omega)]
     have HF:=Hd hF;clear hF;go_wp2_with fail;exact HQ.out none HF.out
    ·by_cases hx1:(l.length:Int)<x
     ·have hF:R=none:=by rw [← HST.out,iN (by omega)]
      have HF:=Hd hF;clear hF;go_wp2_with fail;exact HQ.out none HF.out
     ·have hG:=HST.out;rw [iP ⟨by omega,by omega⟩] at hG;obtain ⟨q,rfl⟩:∃ q:Nat,x=q:=⟨x.toNat,by omega⟩;rw [Int.toNat_natCast] at hG;have hwq:IntKind.i64.wrap ((n:Int)+(q:Int))=(n:Int)+(q:Int):=wI (by omega);have HRL:Hid (endRel l R wr (.int .i64 ((j+1:Nat):Int)) (.int .i64 ((n+q:Nat):Int)) wr):=Hd ⟨j+1,n+q,rfl,rfl,hlt,by have:=HM.out;rw [Nat.succ_mul];omega,hG,rfl⟩;have HML:Hid (l.length-(j+1)<l.length-j):=Hd (by omega);clear hG HST;go_wp2_with fail;refine ⟨?_,(by have:=HML.out;simp [intOf];try omega)⟩;first
       | exact HRL.out
       | (repeat apply Exists.intro
          refine ⟨?_,rfl⟩;exact HRL.out)
   ·have hlt':¬ (j:Int)<l.length:=by omega
    have hge:(l.length:Int)≤j:=by omega
    have hjn:¬ (j:Int)<0:=by omega
    have hF:R=none:=by rw [← HE.out,List.drop_of_length_le (by omega),endR]
    have HF:=Hd hF;clear hF;go_wp2_with fail;exact HQ.out none HF.out
  ·obtain rfl:m=0:=by omega
   have hF:R=some j:=by rw [← HE.out,fB]
   have HF:=Hd hF;clear hF;go_wp2_with fail;exact HQ.out (some j) HF.out
theorem zRs (l:List Prt) (hl:l.length≤1000000000) (v:Value) (w:World) (hr:zF w v l) :
  Calls Tryz.prog 11 #[v] w fun e w'=>e=.returned (.bool (zV l))∧w=w':=by
 have HQ:Hid (∀ x,zV l=x→(fun (e:Ending) w'=>e=.returned (.bool (zV l))∧w=w') (.returned (.bool x)) w):=Hd fun x h=>⟨by rw [h],rfl⟩
 generalize (fun (e:Ending) w'=>e=.returned (.bool (zV l))∧w=w')=Q at *;have C1:=zBe l hl v 0 (Nat.zero_le _) w hr;rw [List.drop_zero] at C1;have C1:=Hd C1;have hw:=@zWn l;obtain ⟨va,vcap,rfl,hvc⟩:=hr.slice;clear hr;by_cases h0:0<l.length
 ·have h0':(0:Int)<l.length:=by omega
  go_enter Tryz.func11,Tryz.ntmps11;go_wp2_with fail;refine C1.out.mono ?_;rintro e w1 ⟨rfl,rfl⟩;cases hE:endR l.length l 1 0 with
  | none =>
   have HW:Hid (zV l=false):=Hd (by
    cases g:zV l with
    | false=>rfl
    | true=>rw [hE] at hw;have:=(hw.2 g).2;cases this)
   have hb:((-1:Int) == (l.length:Int))=false:=by rw [bE];omega
   clear hw;show _;simp only [endI];go_wp2_with fail;exact HQ.out _ HW.out
  | some x =>
   by_cases hx:x=l.length
   ·have HW:Hid (zV l=true):=Hd (hw.1 ⟨h0,by rw [hE,hx]⟩);have hb:((x:Int) == (l.length:Int))=true:=by rw [beq_iff_eq];omega
    clear hw hE;simp only [endI];generalize l.length=ll at *;go_wp2_with fail;exact HQ.out _ HW.out
   ·have HW:Hid (zV l=false):=Hd (by
     cases g:zV l with
     | false=>rfl
     | true=>rw [hE] at hw;have:=(hw.2 g).2;cases this;exact absurd rfl hx)
    have hb:((x:Int) == (l.length:Int))=false:=by rw [bE];omega
    clear hw hE;simp only [endI];go_wp2_with fail;exact HQ.out _ HW.out
 ·have h0':¬ (0:Int)<l.length:=by omega
  have HW:Hid (zV l=false):=Hd (by
   cases g:zV l with
   | false=>rfl
   | true=>exact absurd (hw.2 g).1 h0)
  clear hw;go_enter Tryz.func11,Tryz.ntmps11;go_wp2_with fail;exact HQ.out _ HW.out
def treesV (l:List Prt) (m j:Nat):Int:=match zD (l.drop j) with
 | some ts=>((m+ts.length:Nat):Int)
 | none=>-1
theorem zLy (l:List Prt):treesV l 0 0=jL l:=by
 unfold treesV jL;rw [List.drop_zero];cases zD l with
 | none=>rfl
 | some ts=>simp
theorem zRt (l:List Prt) (m j:Nat) (h:l.length≤j):treesV l m j=m:=by
 unfold treesV;rw [List.drop_of_length_le h,kE];simp
theorem zRu (l:List Prt) (j:Nat) (hj:j<l.length):(endR l.length (l.drop j) 1 j=none∧∀ m,treesV l m j=-1)∨∃ e,endR l.length (l.drop j) 1 j=some e∧j<e∧e≤l.length∧∀ m,treesV l m j=treesV l (m+1) e:=by
 cases hr:zD (l.drop j) with
 | some ts =>
  have hs:=zU hr;rw [List.length_drop] at hs;match ts with
  | []=>simp at hs;omega
  | t::ts =>
   have ht:=hs.2.2 t (by simp);have hsum:=hs.1;rw [List.sum_cons] at hsum;refine Or.inr ⟨j+t,?_,by omega,by omega,fun m=>?_⟩
   ·rw [fC l.length hr (by rw [List.length_drop];omega),iP (by simp)];simp
   ·have hk:=kS 1 hr (by simp);simp only [List.take_succ_cons,List.take_zero,List.sum_cons,List.sum_nil,Nat.add_zero,List.drop_succ_cons,List.drop_zero,List.drop_drop] at hk;unfold treesV;rw [hr,hk];simp only [lC]
    congr 1;omega
 | none =>
  cases he:endR l.length (l.drop j) 1 j with
  | none=>exact Or.inl ⟨rfl,fun m=>by unfold treesV;rw [hr]⟩
  | some e =>
   have hle2:=zFm _ _ _ _ _ he;rw [List.length_drop] at hle2;obtain ⟨us,u1,u2⟩:=kI _ _ _ _ _ he;have hue:=(zU u1).2.1;rw [List.length_take,List.length_drop,u2] at hue;refine Or.inr ⟨e,rfl,by omega,by omega,fun m=>?_⟩;have hd:zD (l.drop e)=none:=by
    cases hd:zD (l.drop e) with
    | none=>rfl
    | some ts =>
     exfalso;have h2:zD ((l.drop j).drop (e-j))=some ts:=by rw [List.drop_drop,show j+(e-j)=e by omega];exact hd
     have:=kT u1 h2;rw [List.take_append_drop,hr] at this;cases this
   unfold treesV;rw [hr,hd]
def treesRel (l:List Prt) (R:Int) (w:World) (n i:Value) (wr:World):Prop :=
 ∃ m j:Nat,n=.int .i64 (m:Int)∧i=.int .i64 (j:Int)∧j≤l.length∧m≤j∧treesV l m j=R∧wr=w
theorem zEp (l:List Prt) (hl:l.length≤1000000000) (v:Value) (w:World) (hr:zF w v l) :
  Calls Tryz.prog 13 #[v] w fun e w'=>e=.returned (.int .i64 (jL l))∧w=w':=by
 have HQ:Hid (∀ x,jL l=x→(fun (e:Ending) w'=>e=.returned (.int .i64 (jL l))∧w=w') (.returned (.int .i64 x)) w):=Hd fun x h=>⟨by rw [h],rfl⟩
 generalize (fun (e:Ending) w'=>e=.returned (.int .i64 (jL l))∧w=w')=Q at *;have hst:=zLy l;generalize hRR:jL l=R at *;have HRR:=Hd hst;have CE:=Hd (fun i hi=>zBe l hl v i hi w hr);obtain ⟨va,vcap,rfl,hvc⟩:=hr.slice;clear hr hst hRR;go_enter Tryz.func13,Tryz.ntmps13;go_wp2_with fail;go_loopw [3,4] (fun n i wr=>treesRel l R w n i wr) (fun _ i _=>l.length-(intOf i).toNat)
 case atStart=>exact ⟨0,0,rfl,rfl,Nat.zero_le _,nR _,HRR.out,rfl⟩
 case round =>
  obtain ⟨m,j,rfl,rfl,hj,hm,hE,rfl⟩:=hrel;have HE:=Hd hE;clear hE;by_cases hlt:j<l.length
  ·have hlt':(j:Int)<l.length:=by omega
   have C1:=CE.out j hj;rcases zRu l j hlt with ⟨h1,h2⟩ | ⟨e,h1,h2,h3,h4⟩
   ·rw [h1] at C1;have C1:=Hd C1;have HF:=Hd (show R=-1 by rw [← HE.out,h2]);clear h1 h2;go_wp2_with fail;refine C1.out.mono ?_;rintro e w1 ⟨rfl,rfl⟩;simp only [endI];go_wp2_with fail;exact HQ.out _ HF.out
   ·rw [h1] at C1;have C1:=Hd C1;have he0:¬ (e:Int)<0:=by omega
    have hwm:IntKind.i64.wrap ((m:Int)+1)=(m:Int)+1:=wI (by omega);have HRL:Hid (treesRel l R wr (.int .i64 ((m+1:Nat):Int)) (.int .i64 (e:Int)) wr):=Hd ⟨m+1,e,rfl,rfl,h3,by omega,by rw [← h4];exact HE.out,rfl⟩;have HML:Hid (l.length-e<l.length-j):=Hd (by omega);clear h1 h2 h3 h4;go_wp2_with fail;refine C1.out.mono ?_;rintro e' w1 ⟨rfl,rfl⟩;simp only [endI];go_wp2_with fail;refine ⟨?_,(by have:=HML.out;simp [intOf];try omega)⟩;first
     | exact HRL.out
     | (repeat apply Exists.intro
        refine ⟨?_,rfl⟩;exact HRL.out)
  ·have hlt':¬ (j:Int)<l.length:=by omega
   have HF:=Hd (show R=(m:Int) by rw [← HE.out,zRt l m j (by omega)]);go_wp2_with fail;exact HQ.out _ HF.out
end Go.Proofs.YtbjkdmbcpkopjaaGreatDoor
