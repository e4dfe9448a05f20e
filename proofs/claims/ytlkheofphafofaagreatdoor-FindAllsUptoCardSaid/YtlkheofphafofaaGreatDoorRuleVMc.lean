/- Rules, holes and binds as memory holds them. -/
import Derived.Test.YtlkheofphafofaaGreatDoorCheckBMc
namespace Go.Proofs.YtlkheofphafofaaGreatDoor
set_option linter.all false
open Go.RowKit

theorem Row.cells {w w':World} {v:Value} {n sz:Nat} {cs:List Value} (h:Row w v n sz cs) (hb:Below w.heap.size w w') (hn:0<n) :
  ∃ b off cap,v=.slice (some ⟨b,off,none⟩) n cap∧n≤cap∧b<w.heap.size∧∀ i,i<n*sz→w'.cell? ⟨b,off+i,none⟩=cs[i]?:=by
 obtain ⟨h1,a,cap,hv,hc,hz,h2⟩:=h
 obtain ⟨b,off,ha,hlt,hcell⟩:=h2 hn
 subst ha
 exact ⟨b,off,cap,hv,hc,hlt,fun i hi=>by rw [hb.cell (p:=⟨b,off+i,none⟩) hlt];exact hcell i hi⟩
theorem Row.shape {w:World} {v:Value} {n sz:Nat} {cs:List Value} (h:Row w v n sz cs):∃ a cap,v=.slice a n cap∧n≤cap:=by
 obtain ⟨_,a,cap,hv,hc,_⟩:=h;exact ⟨a,cap,hv,hc⟩
theorem flat_at {α:Type} {g:α→List Value} {sz:Nat} (hg:∀ x,(g x).length=sz):∀ (l:List α) (i j:Nat) (hi:i<l.length),j<sz→(l.flatMap g)[i*sz+j]?=(g l[i])[j]?
 | x::l,0,j,_,hj=>by
  rw [List.flatMap_cons,Nat.zero_mul,Nat.zero_add,List.getElem?_append_left (by rw [hg];exact hj)];rfl
 | x::l,i+1,j,hi,hj=>by
  have h1:(g x).length≤(i+1)*sz+j:=by rw [hg,Nat.add_mul];omega
  rw [List.flatMap_cons,List.getElem?_append_right h1,hg,show (i+1)*sz+j-sz=i*sz+j by rw [Nat.add_mul];omega]
  rw [flat_at hg l i j (by simpa using hi) hj]
  rfl
theorem flat_len {α:Type} {g:α→List Value} {sz:Nat} (hg:∀ x,(g x).length=sz):∀ l:List α,(l.flatMap g).length=l.length*sz
 | []=>by simp
 | x::l=>by rw [List.flatMap_cons,List.length_append,hg,flat_len hg l,List.length_cons,Nat.add_mul];omega
def holeV (h:Hl):List Value:=[.string h.1,.int .u8 (h.2:Int)]
def holesV (hs:List Hl):List Value:=hs.flatMap holeV
theorem holesV_length (hs:List Hl):(holesV hs).length=hs.length*2:=flat_len (g:=holeV) (sz:=2) (fun _=>rfl) hs
def HoleRow (w:World) (v:Value) (hs:List Hl):Prop:=Row w v hs.length 2 (holesV hs)
theorem HoleRow.below {w w':World} {v:Value} {hs:List Hl} (h:HoleRow w v hs) (hb:Below w.heap.size w w'):HoleRow w' v hs:=Row.below h hb
theorem HoleRow.at {w w':World} {a:Option Addr} {n cap:Nat} {hs:List Hl} (h:HoleRow w (.slice a n cap) hs) (hb:Below w.heap.size w w') (hp:0<hs.length) :
  ∃ b off,a=some ⟨b,off,none⟩∧n=hs.length∧hs.length≤cap∧b<w.heap.size∧∀ i (hi:i<hs.length),w'.cell? ⟨b,off+i*2,none⟩=some (.string hs[i].1)∧w'.cell? ⟨b,off+i*2+1,none⟩=some (.int .u8 (hs[i].2:Int)):=by
 obtain ⟨b,off,cap',hv,hc,hlt,hcell⟩:=Row.cells h hb hp
 simp only [Value.slice.injEq] at hv
 obtain ⟨rfl,rfl,rfl⟩:=hv
 refine ⟨b,off,rfl,rfl,hc,hlt,fun i hi=>⟨?_,?_⟩⟩
 ·rw [hcell _ (by omega)]
  have:=flat_at (g:=holeV) (sz:=2) (fun _=>rfl) hs i 0 hi (by omega)
  rw [Nat.add_zero] at this
  exact this
 ·rw [Nat.add_assoc,hcell _ (by omega)]
  exact flat_at (g:=holeV) (sz:=2) (fun _=>rfl) hs i 1 hi (by omega)
def bindV (b:Bnd):List Value:=[.string b.1,.int .i64 b.2.1,.int .i64 b.2.2]
def bindsV (bs:List Bnd):List Value:=bs.flatMap bindV
theorem bindsV_length (bs:List Bnd):(bindsV bs).length=bs.length*3:=flat_len (g:=bindV) (sz:=3) (fun _=>rfl) bs
def BindRow (w:World) (v:Value) (bs:List Bnd):Prop:=Row w v bs.length 3 (bindsV bs)
theorem BindRow.below {w w':World} {v:Value} {bs:List Bnd} (h:BindRow w v bs) (hb:Below w.heap.size w w'):BindRow w' v bs:=Row.below h hb
theorem BindRow.at {w w':World} {a:Option Addr} {n cap:Nat} {bs:List Bnd} (h:BindRow w (.slice a n cap) bs) (hb:Below w.heap.size w w') (hp:0<bs.length) :
  ∃ b off,a=some ⟨b,off,none⟩∧n=bs.length∧bs.length≤cap∧b<w.heap.size∧∀ i (hi:i<bs.length),w'.cell? ⟨b,off+i*3,none⟩=some (.string bs[i].1)∧w'.cell? ⟨b,off+i*3+1,none⟩=some (.int .i64 bs[i].2.1)∧w'.cell? ⟨b,off+i*3+2,none⟩=some (.int .i64 bs[i].2.2):=by
 obtain ⟨b,off,cap',hv,hc,hlt,hcell⟩:=Row.cells h hb hp
 simp only [Value.slice.injEq] at hv
 obtain ⟨rfl,rfl,rfl⟩:=hv
 refine ⟨b,off,rfl,rfl,hc,hlt,fun i hi=>⟨?_,?_,?_⟩⟩
 ·rw [hcell _ (by omega)]
  have:=flat_at (g:=bindV) (sz:=3) (fun _=>rfl) bs i 0 hi (by omega)
  rw [Nat.add_zero] at this
  exact this
 ·rw [Nat.add_assoc,hcell _ (by omega)]
  exact flat_at (g:=bindV) (sz:=3) (fun _=>rfl) bs i 1 hi (by omega)
 ·rw [Nat.add_assoc,hcell _ (by omega)]
  exact flat_at (g:=bindV) (sz:=3) (fun _=>rfl) bs i 2 hi (by omega)
def ruleAgg (r:RuleM) (vh vf vb:Value):Value:=.agg #[.string r.nm,.int .u8 (r.goal:Int),vh,vf,vb]
structure RuleIn (w:World) (r:RuleM) (vh vf vb:Value):Prop where
 H:HoleRow w vh r.holes
 F:PartRow w vf r.fnd
 B:PartRow w vb r.by'
theorem RuleIn.below {w w':World} {r:RuleM} {vh vf vb:Value} (h:RuleIn w r vh vf vb) (hb:Below w.heap.size w w'):RuleIn w' r vh vf vb:=⟨h.H.below hb,h.F.below hb,h.B.below hb⟩
def SmallL (l:List Prt):Prop:=l.length≤1048576∧∀ p∈l,p.1<256∧p.2.2.size≤1048576
structure SmallR (r:RuleM):Prop where
 n:r.nm.size≤1048576
 g:r.goal<256
 h:r.holes.length≤1048576∧∀ x∈r.holes,x.1.size≤1048576∧x.2<256
 f:SmallL r.fnd
 b:SmallL r.by'
end Go.Proofs.YtlkheofphafofaaGreatDoor
namespace Go.Proofs.YtlkheofphafofaaGreatDoor
set_option linter.all false

def UpInv (l:List Prt):List (Nat×Int)→Nat→Prop
 | [],pos=>pos=l.length∨pos=0
 | (o,c)::st,pos=>o<pos∧0≤c∧advT l c.toNat pos (endB l o)=some (endB l o)∧endB l o≤l.length∧(∀ j,o<j→j<pos→endB l j≤pos)∧UpInv l st (endB l o)
theorem UpInv.pop {l:List Prt} {o:Nat} {st:List (Nat×Int)} {pos:Nat} (h:UpInv l ((o,0)::st) pos):UpInv l st pos:=by
 obtain ⟨_,_,h3,_,_,h6⟩:=h
 rw [show (0:Int).toNat=0 by rfl,advT] at h3
 have:pos=endB l o:=by simpa using h3
 rw [this];exact h6
theorem UpInv.top {l:List Prt} {us:List Nat} (hl:rowsB l=some us) {o:Nat} {c:Int} {st:List (Nat×Int)} {pos:Nat} (h:UpInv l ((o,c)::st) pos) (hc:c≠0):upN l pos=(o:Int)∧o<pos∧pos<endB l o:=by
 obtain ⟨h1,h2,h3,h4,h5,_⟩:=h
 have hlt:pos<endB l o:=by
  obtain ⟨k,hk⟩:∃ k,c.toNat=k+1:=⟨c.toNat-1,by omega⟩
  rw [hk,advT] at h3
  split at h3
  ·assumption
  ·cases h3
 exact ⟨up_of hl (by omega) h1 hlt h5,h1,hlt⟩
theorem UpInv.push {l:List Prt} {us:List Nat} (hl:rowsB l=some us) {o:Nat} {c:Int} {st:List (Nat×Int)} {i:Nat} (h:UpInv l ((o,c)::st) i) (hc:c≠0) (hi:i<l.length):UpInv l ((i,(l[i]).2.1)::(o,c-1)::st) (i+1):=by
 obtain ⟨g1,g2,g3⟩:=h.top hl hc
 obtain ⟨h1,h2,h3,h4,h5,h6⟩:=h
 obtain ⟨q,k1,k2⟩:=adv_kids hl hi
 have hg:=endB_gt hl hi
 refine ⟨by omega,by omega,by rw [k1];exact k2,hg.2,fun j a b=>by omega,by omega,by omega,?_,h4,fun j a b=>?_,h6⟩
 ·obtain ⟨k,hk⟩:∃ k,c.toNat=k+1:=⟨c.toNat-1,by omega⟩
  rw [hk,advT,if_pos g3] at h3
  rw [show (c-1).toNat=k by omega];exact h3
 ·rcases Nat.lt_or_ge j i with a1 | a1
  ·have:=h5 j a a1;omega
  ·exact end_within hl hi a1 b
theorem UpInv.root {l:List Prt} (hl:wellB l=true) (h0:0<l.length):UpInv l [(0,(l[0]).2.1)] 1:=by
 have hw:=well_rows hl
 have hz:=well_zero hl
 obtain ⟨q,k1,k2⟩:=adv_kids hw h0
 exact ⟨by omega,by omega,by rw [k1];exact k2,by omega,fun j a b=>by omega,Or.inl hz.2⟩
theorem UpInv.len {l:List Prt}:∀ {st:List (Nat×Int)} {pos:Nat},UpInv l st pos→∀ x∈st,x.1<l.length∧0≤x.2
 | [],_,_,x,hx=>by cases hx
 | (o,c)::st,pos,h,x,hx=>by
  obtain ⟨h1,h2,h3,h4,h5,h6⟩:=h
  rcases List.mem_cons.1 hx with rfl | hx
  ·refine ⟨?_,h2⟩
   show o<l.length
   apply Classical.byContradiction
   intro hn
   have:endB l o=o:=by
    unfold endB headSize
    rw [List.drop_eq_nil_of_le (by omega),rowsB_nil];rfl
   cases hc:c.toNat with
   | zero =>
    rw [hc,advT] at h3
    have:=Option.some.inj h3
    omega
   | succ k =>
    rw [hc,advT] at h3
    split at h3
    ·omega
    ·cases h3
  ·exact UpInv.len h6 x hx
end Go.Proofs.YtlkheofphafofaaGreatDoor
namespace Go.Proofs.YtlkheofphafofaaGreatDoor
set_option linter.all false
attribute [local irreducible] Calls
open Go.RowKit

def kindU (l:List Prt) (u:Int):Int:=match kindI l u with
 | some k=>(k:Int)
 | none=>69
theorem upN_ge (l:List Prt) (i:Nat):-1≤upN l i:=by
 unfold upN
 have key:∀ k,-1≤upI l i k:=by
  intro k
  induction k with
  | zero=>rw [upI];omega
  | succ k ih=>rw [upI];split <;> omega
 exact key i
theorem upN_less (l:List Prt) (i:Nat):upN l i<(i:Int):=by
 unfold upN
 have key:∀ k,upI l i k<(k:Int):=by
  intro k
  induction k with
  | zero=>rw [upI];omega
  | succ k ih=>rw [upI];split <;> omega
 exact key i
set_option maxRecDepth 100000 in
set_option maxHeartbeats 8000000 in
theorem rule_kind (l:List Prt) (hl:l.length≤1000000000) (v:Value) (u:Int) (h1:-1≤u) (h2:u<l.length) (w:World) (hr:PartRow w v l) :
  Calls Tryz.prog 96 #[v,.int .i64 u] w fun e w'=>e=.returned (.int .u8 (kindU l u))∧w=w':=by
 have HQ:RowKit.Hid (∀ x,kindU l u=x→(fun (e:Ending) w'=>e=.returned (.int .u8 (kindU l u))∧w=w') (.returned (.int .u8 x)) w):=Hd fun x h=>⟨by rw [h],rfl⟩
 generalize (fun (e:Ending) w'=>e=.returned (.int .u8 (kindU l u))∧w=w')=Q at *
 obtain ⟨va,vcap,rfl,hvc⟩:=hr.slice
 by_cases hu:u<0
 ·have HX:=Hd (HQ.out 69 (by unfold kindU kindI;rw [if_pos hu]))
  go_enter Tryz.func96,Tryz.ntmps96
  go_wp2_with fail
  exact HX.out
 ·obtain ⟨k,rfl⟩:∃ k:Nat,u=(k:Int):=⟨u.toNat,by omega⟩
  have hk:k<l.length:=by omega
  obtain ⟨b,off,rfl,_,_,hbl,hcell⟩:=hr.at (Below.refl _ _) (show 0<l.length by omega)
  have c0:=(hcell k hk).1
  have hk0:(0:Int)≤(k:Int):=by omega
  have hkl:(k:Int)<l.length:=by omega
  have hneg:¬ (k:Int)<0:=by omega
  have HX:=Hd (HQ.out ((l[k]).1:Int) (by unfold kindU kindI;rw [if_neg hneg,Int.toNat_natCast,List.getElem?_eq_getElem hk];rfl))
  clear hcell hr HQ
  generalize (l[k]).1=x at *
  go_enter Tryz.func96,Tryz.ntmps96
  go_wp2_with fail
  exact HX.out
end Go.Proofs.YtlkheofphafofaaGreatDoor
namespace Go.Proofs.YtlkheofphafofaaGreatDoor
set_option linter.all false
open Go.RowKit

def e2Rel (l:List Prt) (w:World) (iv:Value) (wr:World):Prop :=
 ∃ (k:Nat) (E:List Int),iv=.int .i64 ((k:Int)-1)∧k≤l.length∧E.length=l.length∧(∀ j,k≤j→j<l.length→E.getD j 0=(endB l j:Int)) ∧
  wr.heap[w.heap.size]?=some (.cells (E.map (Value.int .i64)).toArray 3 (0,0))∧Below w.heap.size w wr
def e2In (l:List Prt) (w:World) (E:List Int) (i q:Nat) (cv:Value) (wr:World):Prop :=
 ∃ c:Nat,cv=.int .i64 (c:Int)∧c≤q∧wr.heap[w.heap.size]?=some (.cells ((E.set i (kidAt l c (i+1):Int)).map (Value.int .i64)).toArray 3 (0,0))∧Below w.heap.size w wr
@[irreducible] def ends2Post (l:List Prt) (w0:World) (e:Ending) (w':World):Prop :=
 ∃ v,e=.returned v∧Below w0.heap.size w0 w'∧w'.ownsRow w0.heap.size 3 1 v l.length ((endsL l).map (Value.int .i64))
theorem owns_block {w:World} {B g:Nat} {n:Nat} {E:List Int} (h:w.heap[g]?=some (.cells (E.map (Value.int .i64)).toArray 3 (0,0))) (hB:B≤g) (hn:E.length=n) (hm:n≤1000000000):w.ownsRow B 3 1 (.slice (some ⟨g,0,none⟩) n n) n (E.map (Value.int .i64)) :=
 ⟨by simp [hn],Or.inr ⟨g,n,_,rfl,hB,h,Nat.le_refl _,by unfold maxLen;omega,by simp [hn],by simp;rw [List.take_of_length_le (by simp [hn])]⟩⟩
set_option maxRecDepth 100000 in
set_option maxHeartbeats 8000000 in
theorem match_ends (l:List Prt) (hl:l.length≤1000000000) (us:List Nat) (hus:rowsB l=some us) (v:Value) (w:World) (hr:PartRow w v l) :
  Calls Tryz.prog 37 #[v] w (ends2Post l w):=by
 have HQ:RowKit.Hid (∀ v' w',Below w.heap.size w w'→w'.ownsRow w.heap.size 3 1 v' l.length ((endsL l).map (Value.int .i64))→ends2Post l w (.returned v') w'):=Hd fun v' w' h1 h2=>by
  unfold ends2Post;exact ⟨v',rfl,h1,h2⟩
 generalize ends2Post l w=Q at *
 have HR:=Hd hr
 have HU:=Hd hus
 obtain ⟨va,vcap,rfl,hvc⟩:=hr.slice
 clear hr hus
 have hmk:=Tmake_ints l.length hl
 have hwl:IntKind.i64.wrap ((l.length:Int)-1)=(l.length:Int)-1:=by rw [IntKind.wrap_i64];omega
 go_enter Tryz.func37,Tryz.ntmps37
 go_wp2_with fail
 have HK0:RowKit.Hid ((w.alloc (.cells (Array.replicate l.length (Value.int .i64 0)) 3)).heap[w.heap.size]?=some (.cells ((List.replicate l.length (0:Int)).map (Value.int .i64)).toArray 3 (0,0))):=Hd (by
  have:=heap_alloc_new w (.cells (Array.replicate l.length (Value.int .i64 0)) 3)
  rw [this,List.map_replicate,List.toArray_replicate])
 have HB0:RowKit.Hid (Below w.heap.size w (w.alloc (.cells (Array.replicate l.length (Value.int .i64 0)) 3))):=Hd ((Below.refl _ _).alloc (Nat.le_refl _) _)
 generalize w.alloc (.cells (Array.replicate l.length (Value.int .i64 0)) 3)=W0 at *
 generalize hBB:w.heap.size=B at *
 have HBB:=Hd hBB
 clear hBB
 go_loopw [4] (fun j wr=>e2Rel l w j wr) (fun j _=>(intOf j+1).toNat)
 case atStart =>
  refine ⟨l.length,List.replicate l.length 0,rfl,Nat.le_refl _,by simp,fun i h1 h2=>by omega,?_,?_⟩
  ·rw [HBB.out];exact HK0.out
  ·rw [HBB.out];exact HB0.out
 case round =>
  obtain ⟨k,E,rfl,hk,hEl,hEq,hh,hb⟩:=hrel
  rw [HBB.out] at hh hb
  have HB:=Hd hb
  have HH:=Hd hh
  have HEQ:=Hd hEq
  have HEL:=Hd hEl
  have hBlt:B<wr.heap.size:=lt_of_block hh
  clear hb hh hEq hEl
  by_cases hk0:0<k
  ·obtain ⟨i,rfl⟩:∃ i,k=i+1:=⟨k-1,by omega⟩
   rw [show (((i+1:Nat):Int)-1)=(i:Int) by omega]
   have hil:i<l.length:=hk
   obtain ⟨b,off,rfl,_,_,hbl,hcell⟩:=HR.out.at (HBB.out ▸ HB.out) (show 0<l.length by omega)
   obtain ⟨q,hq1,hq2,hq4,hq3⟩:=kids_go HU.out hil
   have c0:wr.cell? ⟨b,off+i*3+1,none⟩=some (.int .i64 (q:Int)):=by rw [(hcell i hil).2.1,hq1]
   have HKI:=Hd hq3
   have HKE:=Hd hq2
   have hi0:(0:Int)≤i:=by omega
   have hil':(i:Int)<l.length:=by omega
   have hic:(i:Int)<vcap:=by omega
   have hwi:IntKind.i64.wrap ((i:Int)+1)=(i:Int)+1:=by rw [IntKind.wrap_i64];omega
   have hwm:IntKind.i64.wrap ((i:Int)-1)=(i:Int)-1:=by rw [IntKind.wrap_i64];omega
   have c1:wr.cell? ⟨B,i,none⟩=some (.int .i64 (E.getD i 0)):=by
    simp [World.cell?,HH.out,HEL.out,hil,List.getD_eq_getElem?_getD]
   have z1:wr.frozen? ⟨B,i,none⟩=false:=by simp [World.frozen?,HH.out]
   have hbB:b≠B:=by have:=HBB.out;omega
   have c0':(wr.setCell ⟨B,i,none⟩ (.int .i64 ((i:Int)+1))).cell? ⟨b,off+i*3+1,none⟩=some (.int .i64 (q:Int)):=by
    rw [Tcell_setCell_ne (by exact hbB)];exact c0
   have HAT:RowKit.Hid (e2In l w E i q (.int .i64 0) (wr.setCell ⟨B,i,none⟩ (.int .i64 ((i:Int)+1)))):=Hd ⟨0,rfl,Nat.zero_le _,by
    rw [HBB.out,heap_setCell_same _ _ _ _ _ _ HH.out,List.setIfInBounds_toArray,← List.map_set];rfl,by
    rw [HBB.out];exact HB.out.setCell (p:=⟨B,i,none⟩) (Nat.le_refl _) _⟩
   clear hcell hq1 hq2 hq3 hk0 c0 hbB
   go_wp2_with fail
   clear c1 z1 c0'
   go_loopw [25] (fun cv wx=>e2In l w E i q cv wx) (fun cv _=>q-(intOf cv).toNat)
   case atStart=>exact HAT.out
   case round =>
    obtain ⟨c,rfl,hcq,hh2,hb2⟩:=hrel
    rw [HBB.out] at hh2 hb2
    have HH2:=Hd hh2
    have HB2:=Hd hb2
    clear hh2 hb2 HAT
    by_cases hlt:c<q
    ·obtain ⟨x1,x2⟩:=HKI.out c hlt
     have HXS:=Hd (kidAt_snoc l c (i+1))
     generalize kidAt l c (i+1)=x at *
     have d1:wr.cell? ⟨B,i,none⟩=some (.int .i64 (x:Int)):=by
      simp [World.cell?,HH2.out,HEL.out,hil]
     have d2:wr.cell? ⟨B,x,none⟩=some (.int .i64 (endB l x:Int)):=by
      have:=HEQ.out x (by omega) x2
      rw [List.getD_eq_getElem?_getD] at this
      simp only [World.cell?,HH2.out]
      rw [← this]
      simp [HEL.out,x2,show ¬ i=x by omega]
     have d3:wr.frozen? ⟨B,i,none⟩=false:=by simp [World.frozen?,HH2.out]
     have HN1:RowKit.Hid ((wr.setCell ⟨B,i,none⟩ (.int .i64 (endB l x:Int))).heap[w.heap.size]?=some (.cells ((E.set i (kidAt l (c+1) (i+1):Int)).map (Value.int .i64)).toArray 3 (0,0))):=Hd (by
      rw [HBB.out,HXS.out,heap_setCell_same _ _ _ _ _ _ HH2.out,List.setIfInBounds_toArray,← List.map_set,List.set_set])
     have HN2:RowKit.Hid (Below w.heap.size w (wr.setCell ⟨B,i,none⟩ (.int .i64 (endB l x:Int)))):=Hd (by
      rw [HBB.out];exact HB2.out.setCell (p:=⟨B,i,none⟩) (Nat.le_refl _) _)
     have hx0:(0:Int)≤(x:Int):=by omega
     have hxl:(x:Int)<l.length:=by omega
     have hci:(c:Int)<q:=by omega
     have hwc:IntKind.i64.wrap ((c:Int)+1)=(c:Int)+1:=by rw [IntKind.wrap_i64];omega
     generalize endB l x=y at *
     clear HXS
     go_wp2_with fail
     refine ⟨⟨c+1,by go_num,by omega,HN1.out,HN2.out⟩,by simp [intOf];omega⟩
    ·obtain rfl:c=q:=by omega
     have hci:¬ (c:Int)<(c:Int):=by omega
     have HN:RowKit.Hid (e2Rel l w (.int .i64 ((i:Int)-1)) wr):=Hd ⟨i,E.set i (endB l i:Int),rfl,by omega,by rw [List.length_set];exact HEL.out,fun j h1 h2=>by
      rw [List.getD_eq_getElem?_getD,List.getElem?_set]
      by_cases e:i=j
      ·subst e;(rw [if_pos rfl,if_pos (by rw [HEL.out];exact hil)];try rfl)
      ·rw [if_neg e,← List.getD_eq_getElem?_getD];exact HEQ.out j (by omega) h2,by rw [HBB.out,← HKE.out];exact HH2.out,by rw [HBB.out];exact HB2.out⟩
     go_wp2_with fail
     refine ⟨HN.out,by simp [intOf];try omega⟩
  ·obtain rfl:k=0:=by omega
   rw [show (((0:Nat):Int)-1)=-1 by rfl]
   have hEE:E=endsL l:=by
    apply List.ext_getElem (by rw [HEL.out,endsL_length])
    intro j h1 h2
    have h3:=HEQ.out j (by omega) (by have:=HEL.out;omega)
    have h4:=endsL_get (l:=l) (j:=j) (by have:=HEL.out;omega)
    rw [List.getD_eq_getElem?_getD,List.getElem?_eq_getElem h1] at h3
    rw [List.getElem?_eq_getElem h2] at h4
    simp only [Option.getD_some] at h3
    rw [h3];exact (Option.some.inj h4).symm
   subst hEE
   have HX:=Hd (HQ.out (.slice (some ⟨B,0,none⟩) l.length l.length) wr HB.out (owns_block HH.out (Nat.le_refl _) (endsL_length l) hl))
   go_wp2_with fail
   exact HX.out
end Go.Proofs.YtlkheofphafofaaGreatDoor
namespace Go.Proofs.YtlkheofphafofaaGreatDoor
set_option linter.all false

abbrev Mch:=Nat×Nat×List Bnd
def oneM (rules:List RuleM) (l:List Prt) (i n:Nat):List Mch:=match rules[n]? with
 | some r=>(match atZ r l i with
  | some τ=>[(n,i,bindsOf r.holes τ)]
  | none=>[])
 | none=>[]
def atM (rules:List RuleM) (l:List Prt) (i:Nat):List Mch:=(List.range rules.length).flatMap (oneM rules l i)
def allM (rules:List RuleM) (l:List Prt):List Mch:=(List.range l.length).flatMap (atM rules l)
def firstErr:List RuleM→Int
 | []=>0
 | r::t=>if ruleZ r=0 then firstErr t else ruleZ r
def findErr (rules:List RuleM) (l:List Prt):Int:=if wellB l=false then 8 else if 32<rules.length then 14 else firstErr rules
theorem firstErr_zero:∀ {rules:List RuleM},firstErr rules=0↔∀ r∈rules,ruleZ r=0
 | []=>by simp [firstErr]
 | r::t=>by
  rw [firstErr]
  by_cases h:ruleZ r=0
  ·rw [if_pos h,firstErr_zero];simp [h]
  ·rw [if_neg h];simp [h]
theorem findErr_zero {rules:List RuleM} {l:List Prt}:findErr rules l=0↔wellB l=true∧rules.length≤32∧∀ r∈rules,ruleZ r=0:=by
 unfold findErr
 cases hw:wellB l with
 | false=>simp
 | true =>
  rw [if_neg (by simp)]
  by_cases h:32<rules.length
  ·rw [if_pos h];constructor
   ·intro h;omega
   ·intro h;omega
  ·rw [if_neg h,firstErr_zero]
   constructor
   ·intro g;exact ⟨rfl,by omega,g⟩
   ·intro g;exact g.2.2
theorem mem_oneM {rules:List RuleM} {l:List Prt} {i n:Nat} {m:Mch}:m∈oneM rules l i n↔∃ r τ,rules[n]?=some r∧atZ r l i=some τ∧m=(n,i,bindsOf r.holes τ):=by
 unfold oneM
 cases hr:rules[n]? with
 | none=>simp
 | some r =>
  simp only []
  cases ha:atZ r l i with
  | none=>simp [ha]
  | some τ=>simp [ha]
theorem mem_allM {rules:List RuleM} {l:List Prt} {m:Mch}:m∈allM rules l↔m.2.1<l.length∧∃ r τ,rules[m.1]?=some r∧atZ r l m.2.1=some τ∧m.2.2=bindsOf r.holes τ:=by
 unfold allM atM
 simp only [List.mem_flatMap,List.mem_range]
 constructor
 ·rintro ⟨i,hi,n,hn,h⟩
  obtain ⟨r,τ,h1,h2,rfl⟩:=mem_oneM.1 h
  exact ⟨hi,r,τ,h1,h2,rfl⟩
 ·rintro ⟨h0,r,τ,h1,h2,h3⟩
  obtain ⟨n,i,b⟩:=m
  refine ⟨i,h0,n,?_,mem_oneM.2 ⟨r,τ,h1,h2,by rw [← h3]⟩⟩
  exact (List.getElem?_eq_some_iff.1 h1).1
theorem binds_shift (d:Nat):∀ (hs:List Hl) (σ:MSt),(∀ o∈σ,o≠none)→bindsOf hs (shift d σ)=(bindsOf hs σ).map fun b=>(b.1,b.2.1+(d:Int),b.2.2+(d:Int))
 | [],_,_=>by unfold bindsOf;simp
 | h::hs,[],_=>by unfold bindsOf shift;simp
 | h::hs,o::σ,hn=>by
  have ih:=binds_shift d hs σ (fun o ho=>hn o (by simp [ho]))
  unfold bindsOf at ih ⊢
  unfold shift at ih ⊢
  rw [List.map_cons,List.zipWith_cons_cons,List.zipWith_cons_cons,List.map_cons,ih]
  congr 1
  cases o with
  | none=>exact absurd rfl (hn none (by simp))
  | some q=>simp [bindOf]
theorem atZ_all {r:RuleM} {l:List Prt} {i:Int} {τ:MSt} (h:atZ r l i=some τ):∀ o∈τ,o≠none:=by
 obtain ⟨_,_,_,_,_,h6,h7⟩:=atZ_inv h
 intro o ho e
 obtain ⟨k,hk,rfl⟩:=List.mem_iff_getElem.1 ho
 obtain ⟨q,hq,_⟩:=h7 k (by omega)
 rw [List.getElem?_eq_getElem hk,e] at hq
 cases hq
end Go.Proofs.YtlkheofphafofaaGreatDoor
namespace Go.Proofs.YtlkheofphafofaaGreatDoor
set_option linter.all false

def alikeZ (r:RuleM) (p:Prt):Bool:=match r.fnd[0]? with
 | some q=>q.1 == 26 || (q.1 == 50 || (q.1 == p.1&&decide (q.2.2=p.2.2)))
 | none=>true
theorem alike_no {r:RuleM} {l:List Prt} {i:Nat} (hi:i<l.length) (h:alikeZ r l[i]=false):atZ r l i=none:=by
 unfold alikeZ at h
 cases hf:r.fnd[0]? with
 | none=>rw [hf] at h;cases h
 | some q =>
  rw [hf] at h
  simp only [Bool.or_eq_false_iff,beq_eq_false_iff_ne] at h
  obtain ⟨h1,h2,h3⟩:=h
  have hn:holeOf r.fnd r.holes 0=none:=by
   unfold holeOf
   rw [List.findIdx?_eq_none_iff]
   intro g _
   unfold standsAt
   rw [hf]
   cases isStmt g.2 with
   | true =>
    rw [if_pos rfl]
    cases r.fnd[0+1]? with
    | none=>rfl
    | some b=>simp [h2]
   | false=>simp [h1]
  have ha:alikeP r.fnd l 0 i=false:=by
   unfold alikeP
   rw [hf,List.getElem?_eq_getElem hi]
   exact h3
  unfold atZ
  split
  ·rw [show ((i:Int)).toNat=i by omega]
   unfold fuelZ
   rw [aPart]
   have ho:oneOf r.fnd r.holes 0=none:=by unfold oneOf;rw [hn]
   rw [ho,ha]
   rfl
  ·rfl
theorem one_piece {rules:List RuleM} {l:List Prt} (hl:wellB l=true) {i n:Nat} (hi:i<l.length) {r:RuleM} (hr:rules[n]?=some r) :
  oneM rules l i n=match atZ r (piece l i (endB l i)) 0 with
   | some τ=>[(n,i,(bindsOf r.holes τ).map fun b=>(b.1,b.2.1+(i:Int),b.2.2+(i:Int)))]
   | none=>[]:=by
 unfold oneM
 rw [hr]
 simp only []
 rw [atZ_part hl hi]
 cases h:atZ r (piece l i (endB l i)) 0 with
 | none=>rfl
 | some τ=>simp only [Option.map_some];rw [binds_shift _ _ _ (atZ_all h)]
theorem one_no {rules:List RuleM} {l:List Prt} {i n:Nat} (hi:i<l.length) {r:RuleM} (hr:rules[n]?=some r) (h:alikeZ r l[i]=false):oneM rules l i n=[]:=by
 unfold oneM
 rw [hr]
 simp only []
 rw [alike_no hi h]
def accM (rules:List RuleM) (l:List Prt) (i n:Nat):List Mch:=(List.range i).flatMap (atM rules l)++(List.range n).flatMap (oneM rules l i)
theorem accM_step (rules:List RuleM) (l:List Prt) (i n:Nat):accM rules l i (n+1)=accM rules l i n++oneM rules l i n:=by
 unfold accM;rw [List.range_succ,List.flatMap_append,List.append_assoc];simp
theorem accM_next (rules:List RuleM) (l:List Prt) (i:Nat):accM rules l (i+1) 0=accM rules l i rules.length:=by
 unfold accM;rw [List.range_succ,List.flatMap_append];simp [atM]
theorem accM_all (rules:List RuleM) (l:List Prt):accM rules l l.length 0=allM rules l:=by
 unfold accM allM;simp
end Go.Proofs.YtlkheofphafofaaGreatDoor
namespace Go.Proofs.YtlkheofphafofaaGreatDoor
set_option linter.all false

def ordK (f:List Prt) (hs:List Hl) (k:Nat):List Nat:=ddL [] ((List.range k).filterMap (sevOf f hs))
theorem dd_snoc:∀ (o acc:List Nat) (h:Nat),ddL acc (o++[h])=if h∈ddL acc o then ddL acc o else ddL acc o++[h]
 | [],acc,h=>by rw [List.nil_append,ddL,ddL];split <;> rfl
 | k::t,acc,h=>by
  rw [List.cons_append,ddL,ddL]
  split
  ·exact dd_snoc t acc h
  ·exact dd_snoc t _ h
theorem ordK_none {f:List Prt} {hs:List Hl} {k:Nat} (h:sevOf f hs k=none):ordK f hs (k+1)=ordK f hs k:=by
 unfold ordK
 rw [List.range_succ,List.filterMap_append]
 simp [h]
theorem ordK_some {f:List Prt} {hs:List Hl} {k x:Nat} (h:sevOf f hs k=some x):ordK f hs (k+1)=if x∈ordK f hs k then ordK f hs k else ordK f hs k++[x]:=by
 unfold ordK
 rw [List.range_succ,List.filterMap_append]
 have:List.filterMap (sevOf f hs) [k]=[x]:=by simp [h]
 rw [this,dd_snoc]
theorem ordK_all (f:List Prt) (hs:List Hl):ordK f hs f.length=orderL f hs:=by
 unfold ordK orderL occL
 rw [List.range_eq_range',Nat.sub_zero]
theorem ordK_lt {f:List Prt} {hs:List Hl} {k x:Nat} (h:x∈ordK f hs k):x<hs.length:=by
 unfold ordK at h
 rw [dd_mem] at h
 rcases h with h | h
 ·cases h
 ·rw [List.mem_filterMap] at h
  obtain ⟨p,_,hp⟩:=h
  exact (holeOf_inv (sevOf_sev f hs hp).2).1
theorem nodup_lt:∀ (n:Nat) (l:List Nat),l.Nodup→(∀ x∈l,x<n)→l.length≤n
 | 0,l,_,h=>by
  cases l with
  | nil=>simp
  | cons x t=>exact absurd (h x (by simp)) (by omega)
 | n+1,l,hn,h=>by
  by_cases hm:n∈l
  ·have h1:=nodup_lt n (l.erase n) (hn.erase n) (fun x hx=>by
    rw [hn.mem_erase_iff] at hx
    have:=h x hx.2
    omega)
   rw [List.length_erase_of_mem hm] at h1
   omega
  ·have h1:=nodup_lt n l hn (fun x hx=>by
    have:=h x hx
    have:x≠n:=fun e=>hm (e ▸ hx)
    omega)
   omega
theorem ordK_len (f:List Prt) (hs:List Hl) (k:Nat):(ordK f hs k).length≤hs.length:=by
 exact nodup_lt _ _ (dd_nodup _ _ List.nodup_nil) (fun x hx=>ordK_lt hx)
def lensL (os D:List Nat) (n:Nat):List Nat:=(List.range n).map (LD os D)
theorem lensL_len (os D:List Nat) (n:Nat):(lensL os D n).length=n:=by unfold lensL;simp
theorem lensL_get (os D:List Nat) (n h:Nat) (hh:h<(lensL os D n).length):(lensL os D n)[h]=LD os D h:=by
 have hn:h<n:=by rw [lensL_len] at hh;exact hh
 apply Option.some.inj
 rw [← List.getElem?_eq_getElem hh]
 unfold lensL
 rw [List.getElem?_map,List.getElem?_range hn];rfl
theorem LD_at {os D:List Nat} (hn:os.Nodup) (hd:D.length=os.length) {k:Nat} (hk:k<os.length):LD os D os[k]=D[k]'(by omega):=by
 have hj:os.idxOf? (os[k])=some k:=by
  rw [List.idxOf?,List.findIdx?_eq_some_iff_getElem]
  refine ⟨by omega,by simp,fun j hj=>?_⟩
  simp
  intro e
  exact List.pairwise_iff_getElem.1 hn j k (by omega) (by omega) hj e
 unfold LD
 rw [hj]
 simp [List.getD_eq_getElem?_getD,hd,hk]
theorem lensL_set {os D:List Nat} (hn:os.Nodup) (hd:D.length=os.length) {n k:Nat} (hk:k<os.length) (v:Nat):(lensL os D n).set os[k] v=lensL os (D.set k v) n:=by
 apply List.ext_getElem
 ·simp [lensL]
 ·intro h h1 h2
  rw [lensL_get]
  rw [List.length_set,lensL_len] at h1
  by_cases e:os[k]=h
  ·subst e
   rw [List.getElem_set_self,LD_at hn (by rw [List.length_set];exact hd) hk,List.getElem_set_self]
  ·rw [List.getElem_set_ne e,lensL_get]
   by_cases hm:h∈os
   ·obtain ⟨j,hj,rfl⟩:=List.mem_iff_getElem.1 hm
    have hjk:k≠j:=fun e2=>e (by subst e2;rfl)
    rw [LD_at hn hd hj,LD_at hn (by rw [List.length_set];exact hd) hj,List.getElem_set_ne hjk]
   ·rw [LD_none hm,LD_none hm]
theorem lensL_zero (os:List Nat) (n:Nat):lensL os (os.map fun _=>0) n=List.replicate n 0:=by
 apply List.ext_getElem
 ·simp [lensL]
 ·intro h h1 h2
  rw [lensL_get,List.getElem_replicate]
  by_cases hm:h∈os
  ·rw [LD_map _ hm]
  ·exact LD_none hm
def zerosL (D:List Nat) (m:Nat):List Nat:=D.take m++List.replicate (D.length-m) 0
theorem zerosL_len (D:List Nat) {m:Nat} (hm:m≤D.length):(zerosL D m).length=D.length:=by unfold zerosL;simp;omega
theorem zerosL_all (D:List Nat):zerosL D D.length=D:=by unfold zerosL;simp
theorem od_get {D:List Nat} {m:Nat} (hm:m<D.length):(zerosL D (m+1))[m]?=some D[m]:=by
 unfold zerosL
 rw [List.getElem?_append_left (by rw [List.length_take];omega),List.getElem?_take_of_lt (by omega),List.getElem?_eq_getElem hm]
theorem od_set {D:List Nat} {m:Nat} (hm:m<D.length) (v:Nat):(zerosL D (m+1)).set m v=D.take m++v::List.replicate (D.length-(m+1)) 0:=by
 unfold zerosL
 have e:D.take (m+1)=D.take m++[D[m]]:=by rw [List.take_add_one,List.getElem?_eq_getElem hm];rfl
 rw [e,List.append_assoc,List.set_append_right _ _ (by rw [List.length_take];omega),List.length_take,Nat.min_eq_left (by omega),Nat.sub_self]
 rfl
theorem od_zero {D:List Nat} {m:Nat} (hm:m<D.length):(zerosL D (m+1)).set m 0=zerosL D m:=by
 rw [od_set hm]
 unfold zerosL
 rw [show D.length-m=(D.length-(m+1))+1 by omega,List.replicate_succ]
theorem od_next {D:List Nat} {most m:Nat} (hm:m<D.length) (hz:∀ i (hi:i<D.length),m+1≤i→D[i]=most) (hd:D[m]<most):incrD most D=some ((zerosL D (m+1)).set m (D[m]+1)):=by
 have e:D=D.take m++D[m]::D.drop (m+1):=by
  rw [← List.drop_eq_getElem_cons hm,List.take_append_drop]
 have h:=incr_at (most:=most) (D.take m) D[m] (D.drop (m+1)) (fun x hx=>by
  obtain ⟨i,hi,rfl⟩:=List.mem_iff_getElem.1 hx
  rw [List.length_drop] at hi
  rw [List.getElem_drop]
  exact hz _ (by omega) (by omega)) hd
 rw [← e] at h
 rw [h,od_set hm]
 congr 2
 rw [List.map_const',List.length_drop]
theorem od_all {D:List Nat} {most:Nat} (hz:∀ i (hi:i<D.length),D[i]=most):incrD most D=none :=
 (incr_none (fun d hd=>by obtain ⟨i,hi,rfl⟩:=List.mem_iff_getElem.1 hd;rw [hz i hi];exact Nat.le_refl _)).2 fun d hd=>by
  obtain ⟨i,hi,rfl⟩:=List.mem_iff_getElem.1 hd;exact hz i hi
theorem widest_le {l:List Prt} {n:Int} (hn:0≤n) (h:∀ p∈l,p.2.1≤n):widest l≤n:=by
 unfold widest
 have key:∀ (l:List Prt) (a:Int),a≤n→(∀ p∈l,p.2.1≤n)→l.foldl (fun n p=>max n p.2.1) a≤n:=by
  intro l
  induction l with
  | nil=>intro a ha _;exact ha
  | cons p l ih =>
   intro a ha h
   rw [List.foldl_cons]
   refine ih _ ?_ (fun q hq=>h q (by simp [hq]))
   have:=h p (by simp)
   omega
 exact key l 0 hn h
theorem widest_well {l:List Prt} (hl:wellB l=true):widest l≤l.length :=
 widest_le (by omega) fun p hp=>by
  obtain ⟨i,hi,rfl⟩:=List.mem_iff_getElem.1 hp
  obtain ⟨ts,q,f1,f2,f3,_⟩:=kids_facts (well_rows hl) hi
  have:=(rowsB_sum f1).2.1
  rw [List.length_drop] at this
  omega
end Go.Proofs.YtlkheofphafofaaGreatDoor
namespace Go.Proofs.YtlkheofphafofaaGreatDoor
set_option linter.all false

structure KidSeq (f:List Prt) (p q:Nat) (kp:Nat→Nat):Prop where
 len:(kidsB f p).length=q
 get:∀ c,c<q→(kidsB f p)[c]?=some (kp c)
 lt:∀ c,c<q→kp c<f.length
 nx:∀ c,c<q→endB f (kp c)=kp (c+1)
 up:∀ c,c<q→kp c<kp (c+1)
 le:∀ c,c≤q→kp c≤endB f p
 z:kp 0=p+1
 e:kp q=endB f p
 n:(q:Int)≤f.length
theorem kid_seq {f:List Prt} {us:List Nat} (h:rowsB f=some us) {p:Nat} (hp:p<f.length):∃ q kp,KidSeq f p q kp:=by
 obtain ⟨ts,q,f1,f2,f3,f4,f5⟩:=kids_facts h hp
 have hl:=(rowsB_sum f1).2.1
 rw [List.length_drop] at hl
 refine ⟨q,fun c=>p+1+(ts.take c).sum,⟨?_,fun c hc=>?_,fun c hc=>?_,fun c hc=>?_,fun c hc=>?_,fun c hc=>?_,by simp,f4.symm,by omega⟩⟩
 ·rw [f5,List.length_take,starts_length];omega
 ·obtain ⟨_,_,g3,_⟩:=kid_step h f1 f3 hc
  have e1:(starts (p+1) ts)[c]?=some (p+1+(ts.take c).sum):=by
   have e2:((starts (p+1) ts).take (c+1))[c]?=some (p+1+(ts.take c).sum):=by
    rw [g3,List.getElem?_append_right (by rw [List.length_take,starts_length];omega),List.length_take,starts_length,Nat.min_eq_left (by omega),Nat.sub_self]
    rfl
   rw [List.getElem?_take_of_lt (by omega)] at e2
   exact e2
  rw [f5,List.getElem?_take_of_lt hc,e1]
 ·exact (kid_step h f1 f3 hc).1
 ·exact (kid_step h f1 f3 hc).2.1
 ·have:=(kid_step h f1 f3 hc).2.2.2.2.1
  show p+1+_<p+1+_
  omega
 ·rw [f4]
  have:=sum_take_add ts c (q-c)
  rw [show c+(q-c)=q by omega] at this
  show p+1+_≤p+1+_
  omega
section
variable {f l:List Prt} {hs:List Hl} {L:Nat→Nat}
theorem fk_end {N p a stop:Nat} {σ:MSt}:fKids f l hs L (N+1) p p a stop σ=if a=stop then some σ else none:=by rw [fKids,if_pos rfl]
theorem fk_one {N p pend a stop:Nat} {σ:MSt} (hne:p≠pend) (hs':sevOf f hs p=none):fKids f l hs L (N+1) p pend a stop σ=if a<stop then (fPart f l hs L N p a σ).bind fun σ'=>fKids f l hs L N (endB f p) pend (endB l a) stop σ' else none:=by rw [fKids,if_neg hne,hs']
theorem fk_sev {N p pend a stop h:Nat} {σ:MSt} (hne:p≠pend) (hs':sevOf f hs p=some h):fKids f l hs L (N+1) p pend a stop σ=(advT l (L h) a stop).bind fun tx=>(bindS l σ h a tx).bind fun σ'=>fKids f l hs L N (endB f p) pend tx stop σ':=by rw [fKids,if_neg hne,hs']
theorem fp_else {n p i:Nat} {σ:MSt} (ho:oneOf f hs p=none):fPart f l hs L (n+1) p i σ=if alikeP f l p i then fKids f l hs L n (p+1) (endB f p) (i+1) (endB l i) σ else none:=by rw [fPart,ho]
end
end Go.Proofs.YtlkheofphafofaaGreatDoor
