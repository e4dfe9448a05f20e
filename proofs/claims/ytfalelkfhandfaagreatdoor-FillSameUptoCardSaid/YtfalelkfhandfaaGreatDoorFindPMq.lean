/- Layer 18 in plain Lean: all places at which rules fit. -/
import Derived.Test.YtfalelkfhandfaaGreatDoorCheckBMq
namespace Go.Proofs.YtfalelkfhandfaaGreatDoor
set_option linter.all false

abbrev Mch:=Nat×Nat×List Bnd
def oneM (rules:List RuleM) (l:List Prt) (i n:Nat):List Mch:=match rules[n]? with
 | some r=>(match atZ r l i with
  | some τ=>[(n,i,bindsOf r.holes τ)]
  | none=>[])
 | none=>[]
def atM (rules:List RuleM) (l:List Prt) (i:Nat):List Mch:=(List.range rules.length).flatMap (oneM rules l i)
def allM (rules:List RuleM) (l:List Prt):List Mch:=(List.range l.length).flatMap (atM rules l)
def yX:List RuleM→Int
 | []=>0
 | r::t=>if ruleZ r=0 then yX t else ruleZ r
def yB (rules:List RuleM) (l:List Prt):Int:=if zZ l=false then 8 else if 32<rules.length then 14 else yX rules
theorem zAa:∀ {rules:List RuleM},yX rules=0↔∀ r∈rules,ruleZ r=0
 | []=>by simp [yX]
 | r::t=>by
  rw [yX]
  by_cases h:ruleZ r=0
  ·rw [if_pos h,zAa];simp [h]
  ·rw [if_neg h];simp [h]
theorem kF {rules:List RuleM} {l:List Prt}:yB rules l=0↔zZ l=true∧rules.length≤32∧∀ r∈rules,ruleZ r=0:=by
 unfold yB
 cases hw:zZ l with
 | false=>simp
 | true =>
  rw [if_neg (by simp)]
  by_cases h:32<rules.length
  ·rw [if_pos h];constructor
   ·intro h;omega
   ·intro h;omega
  ·rw [if_neg h,zAa]
   constructor
   ·intro g;exact ⟨rfl,by omega,g⟩
   ·intro g;exact g.2.2
theorem zKa {rules:List RuleM} {l:List Prt} {i n:Nat} {m:Mch}:m∈oneM rules l i n↔∃ r τ,rules[n]?=some r∧atZ r l i=some τ∧m=(n,i,bindsOf r.holes τ):=by
 unfold oneM
 cases hr:rules[n]? with
 | none=>simp
 | some r =>
  simp only []
  cases ha:atZ r l i with
  | none=>simp [ha]
  | some τ=>simp [ha]
theorem zDw {rules:List RuleM} {l:List Prt} {m:Mch}:m∈allM rules l↔m.2.1<l.length∧∃ r τ,rules[m.1]?=some r∧atZ r l m.2.1=some τ∧m.2.2=bindsOf r.holes τ:=by
 unfold allM atM
 simp only [List.mem_flatMap,List.mem_range]
 constructor
 ·rintro ⟨i,hi,n,hn,h⟩
  obtain ⟨r,τ,h1,h2,rfl⟩:=zKa.1 h
  exact ⟨hi,r,τ,h1,h2,rfl⟩
 ·rintro ⟨h0,r,τ,h1,h2,h3⟩
  obtain ⟨n,i,b⟩:=m
  refine ⟨i,h0,n,?_,zKa.2 ⟨r,τ,h1,h2,by rw [← h3]⟩⟩
  exact (List.getElem?_eq_some_iff.1 h1).1
theorem zCj (d:Nat):∀ (hs:List Hl) (σ:MSt),(∀ o∈σ,o≠none)→bindsOf hs (shift d σ)=(bindsOf hs σ).map fun b=>(b.1,b.2.1+(d:Int),b.2.2+(d:Int))
 | [],_,_=>by unfold bindsOf;simp
 | h::hs,[],_=>by unfold bindsOf shift;simp
 | h::hs,o::σ,hn=>by
  have ih:=zCj d hs σ (fun o ho=>hn o (by simp [ho]))
  unfold bindsOf at ih ⊢
  unfold shift at ih ⊢
  rw [List.map_cons,List.zipWith_cons_cons,List.zipWith_cons_cons,List.map_cons,ih]
  congr 1
  cases o with
  | none=>exact absurd rfl (hn none (by simp))
  | some q=>simp [bindOf]
theorem zUy {r:RuleM} {l:List Prt} {i:Int} {τ:MSt} (h:atZ r l i=some τ):∀ o∈τ,o≠none:=by
 obtain ⟨_,_,_,_,_,h6,h7⟩:=jH h
 intro o ho e
 obtain ⟨k,hk,rfl⟩:=List.mem_iff_getElem.1 ho
 obtain ⟨q,hq,_⟩:=h7 k (by omega)
 rw [List.getElem?_eq_getElem hk,e] at hq
 cases hq
end Go.Proofs.YtfalelkfhandfaaGreatDoor
namespace Go.Proofs.YtfalelkfhandfaaGreatDoor
set_option linter.all false
open Go.RowKit

theorem Row.cells {w w':World} {v:Value} {n sz:Nat} {cs:List Value} (h:Row w v n sz cs) (hb:Below w.heap.size w w') (hn:0<n) :
  ∃ b off cap,v=.slice (some ⟨b,off,none⟩) n cap∧n≤cap∧b<w.heap.size∧∀ i,i<n*sz→w'.cell? ⟨b,off+i,none⟩=cs[i]?:=by
 obtain ⟨h1,a,cap,hv,hc,hz,h2⟩:=h
 obtain ⟨b,off,ha,hlt,hcell⟩:=h2 hn
 subst ha
 exact ⟨b,off,cap,hv,hc,hlt,fun i hi=>by rw [hb.cell (p:=⟨b,off+i,none⟩) hlt];exact hcell i hi⟩
theorem Row.shape {w:World} {v:Value} {n sz:Nat} {cs:List Value} (h:Row w v n sz cs):∃ a cap,v=.slice a n cap∧n≤cap:=by
 obtain ⟨_,a,cap,hv,hc,_⟩:=h;exact ⟨a,cap,hv,hc⟩
theorem vY {α:Type} {g:α→List Value} {sz:Nat} (hg:∀ x,(g x).length=sz):∀ (l:List α) (i j:Nat) (hi:i<l.length),j<sz→(l.flatMap g)[i*sz+j]?=(g l[i])[j]?
 | x::l,0,j,_,hj=>by
  rw [List.flatMap_cons,Nat.zero_mul,Nat.zero_add,List.getElem?_append_left (by rw [hg];exact hj)];rfl
 | x::l,i+1,j,hi,hj=>by
  have h1:(g x).length≤(i+1)*sz+j:=by rw [hg,Nat.add_mul];omega
  rw [List.flatMap_cons,List.getElem?_append_right h1,hg,show (i+1)*sz+j-sz=i*sz+j by rw [Nat.add_mul];omega]
  rw [vY hg l i j (by simpa using hi) hj]
  rfl
theorem zBf {α:Type} {g:α→List Value} {sz:Nat} (hg:∀ x,(g x).length=sz):∀ l:List α,(l.flatMap g).length=l.length*sz
 | []=>by simp
 | x::l=>by rw [List.flatMap_cons,List.length_append,hg,zBf hg l,List.length_cons,Nat.add_mul];omega
def holeV (h:Hl):List Value:=[.string h.1,.int .u8 (h.2:Int)]
def holesV (hs:List Hl):List Value:=hs.flatMap holeV
def HoleRow (w:World) (v:Value) (hs:List Hl):Prop:=Row w v hs.length 2 (holesV hs)
theorem HoleRow.below {w w':World} {v:Value} {hs:List Hl} (h:HoleRow w v hs) (hb:Below w.heap.size w w'):HoleRow w' v hs:=Row.below h hb
theorem HoleRow.at {w w':World} {a:Option Addr} {n cap:Nat} {hs:List Hl} (h:HoleRow w (.slice a n cap) hs) (hb:Below w.heap.size w w') (hp:0<hs.length) :
  ∃ b off,a=some ⟨b,off,none⟩∧n=hs.length∧hs.length≤cap∧b<w.heap.size∧∀ i (hi:i<hs.length),w'.cell? ⟨b,off+i*2,none⟩=some (.string hs[i].1)∧w'.cell? ⟨b,off+i*2+1,none⟩=some (.int .u8 (hs[i].2:Int)):=by
 obtain ⟨b,off,cap',hv,hc,hlt,hcell⟩:=Row.cells h hb hp
 simp only [Value.slice.injEq] at hv
 obtain ⟨rfl,rfl,rfl⟩:=hv
 refine ⟨b,off,rfl,rfl,hc,hlt,fun i hi=>⟨?_,?_⟩⟩
 ·rw [hcell _ (by omega)]
  have:=vY (g:=holeV) (sz:=2) (fun _=>rfl) hs i 0 hi (by omega)
  rw [Nat.add_zero] at this
  exact this
 ·rw [Nat.add_assoc,hcell _ (by omega)]
  exact vY (g:=holeV) (sz:=2) (fun _=>rfl) hs i 1 hi (by omega)
def bindV (b:Bnd):List Value:=[.string b.1,.int .i64 b.2.1,.int .i64 b.2.2]
def bindsV (bs:List Bnd):List Value:=bs.flatMap bindV
theorem gD (bs:List Bnd):(bindsV bs).length=bs.length*3:=zBf (g:=bindV) (sz:=3) (fun _=>rfl) bs
def BindRow (w:World) (v:Value) (bs:List Bnd):Prop:=Row w v bs.length 3 (bindsV bs)
theorem BindRow.below {w w':World} {v:Value} {bs:List Bnd} (h:BindRow w v bs) (hb:Below w.heap.size w w'):BindRow w' v bs:=Row.below h hb
theorem BindRow.at {w w':World} {a:Option Addr} {n cap:Nat} {bs:List Bnd} (h:BindRow w (.slice a n cap) bs) (hb:Below w.heap.size w w') (hp:0<bs.length) :
  ∃ b off,a=some ⟨b,off,none⟩∧n=bs.length∧bs.length≤cap∧b<w.heap.size∧∀ i (hi:i<bs.length),w'.cell? ⟨b,off+i*3,none⟩=some (.string bs[i].1)∧w'.cell? ⟨b,off+i*3+1,none⟩=some (.int .i64 bs[i].2.1)∧w'.cell? ⟨b,off+i*3+2,none⟩=some (.int .i64 bs[i].2.2):=by
 obtain ⟨b,off,cap',hv,hc,hlt,hcell⟩:=Row.cells h hb hp
 simp only [Value.slice.injEq] at hv
 obtain ⟨rfl,rfl,rfl⟩:=hv
 refine ⟨b,off,rfl,rfl,hc,hlt,fun i hi=>⟨?_,?_,?_⟩⟩
 ·rw [hcell _ (by omega)]
  have:=vY (g:=bindV) (sz:=3) (fun _=>rfl) bs i 0 hi (by omega)
  rw [Nat.add_zero] at this
  exact this
 ·rw [Nat.add_assoc,hcell _ (by omega)]
  exact vY (g:=bindV) (sz:=3) (fun _=>rfl) bs i 1 hi (by omega)
 ·rw [Nat.add_assoc,hcell _ (by omega)]
  exact vY (g:=bindV) (sz:=3) (fun _=>rfl) bs i 2 hi (by omega)
def ruleAgg (r:RuleM) (vh vf vb:Value):Value:=.agg #[.string r.nm,.int .u8 (r.goal:Int),vh,vf,vb]
structure RuleIn (w:World) (r:RuleM) (vh vf vb:Value):Prop where
 H:HoleRow w vh r.holes
 F:zG w vf r.fnd
 B:zG w vb r.by'
theorem RuleIn.below {w w':World} {r:RuleM} {vh vf vb:Value} (h:RuleIn w r vh vf vb) (hb:Below w.heap.size w w'):RuleIn w' r vh vf vb:=⟨h.H.below hb,h.F.below hb,h.B.below hb⟩
def SmallL (l:List Prt):Prop:=l.length≤1048576∧∀ p∈l,p.1<256∧p.2.2.size≤1048576
structure SmallR (r:RuleM):Prop where
 n:r.nm.size≤1048576
 g:r.goal<256
 h:r.holes.length≤1048576∧∀ x∈r.holes,x.1.size≤1048576∧x.2<256
 f:SmallL r.fnd
 b:SmallL r.by'
end Go.Proofs.YtfalelkfhandfaaGreatDoor
namespace Go.Proofs.YtfalelkfhandfaaGreatDoor
set_option linter.all false

def UpInv (l:List Prt):List (Nat×Int)→Nat→Prop
 | [],pos=>pos=l.length∨pos=0
 | (o,c)::st,pos=>o<pos∧0≤c∧advT l c.toNat pos (zA l o)=some (zA l o)∧zA l o≤l.length∧(∀ j,o<j→j<pos→zA l j≤pos)∧UpInv l st (zA l o)
theorem UpInv.pop {l:List Prt} {o:Nat} {st:List (Nat×Int)} {pos:Nat} (h:UpInv l ((o,0)::st) pos):UpInv l st pos:=by
 obtain ⟨_,_,h3,_,_,h6⟩:=h
 rw [show (0:Int).toNat=0 by rfl,advT] at h3
 have:pos=zA l o:=by simpa using h3
 rw [this];exact h6
theorem UpInv.top {l:List Prt} {us:List Nat} (hl:zF l=some us) {o:Nat} {c:Int} {st:List (Nat×Int)} {pos:Nat} (h:UpInv l ((o,c)::st) pos) (hc:c≠0):upN l pos=(o:Int)∧o<pos∧pos<zA l o:=by
 obtain ⟨h1,h2,h3,h4,h5,_⟩:=h
 have hlt:pos<zA l o:=by
  obtain ⟨k,hk⟩:∃ k,c.toNat=k+1:=⟨c.toNat-1,by omega⟩
  rw [hk,advT] at h3
  split at h3
  ·assumption
  ·cases h3
 exact ⟨zTw hl (by omega) h1 hlt h5,h1,hlt⟩
theorem UpInv.push {l:List Prt} {us:List Nat} (hl:zF l=some us) {o:Nat} {c:Int} {st:List (Nat×Int)} {i:Nat} (h:UpInv l ((o,c)::st) i) (hc:c≠0) (hi:i<l.length):UpInv l ((i,(l[i]).2.1)::(o,c-1)::st) (i+1):=by
 obtain ⟨g1,g2,g3⟩:=h.top hl hc
 obtain ⟨h1,h2,h3,h4,h5,h6⟩:=h
 obtain ⟨q,k1,k2⟩:=yW hl hi
 have hg:=zJ hl hi
 refine ⟨by omega,by omega,by rw [k1];exact k2,hg.2,fun j a b=>by omega,by omega,by omega,?_,h4,fun j a b=>?_,h6⟩
 ·obtain ⟨k,hk⟩:∃ k,c.toNat=k+1:=⟨c.toNat-1,by omega⟩
  rw [hk,advT,if_pos g3] at h3
  rw [show (c-1).toNat=k by omega];exact h3
 ·rcases Nat.lt_or_ge j i with a1 | a1
  ·have:=h5 j a a1;omega
  ·exact zFj hl hi a1 b
theorem UpInv.root {l:List Prt} (hl:zZ l=true) (h0:0<l.length):UpInv l [(0,(l[0]).2.1)] 1:=by
 have hw:=zI hl
 have hz:=yD hl
 obtain ⟨q,k1,k2⟩:=yW hw h0
 exact ⟨by omega,by omega,by rw [k1];exact k2,by omega,fun j a b=>by omega,Or.inl hz.2⟩
theorem UpInv.len {l:List Prt}:∀ {st:List (Nat×Int)} {pos:Nat},UpInv l st pos→∀ x∈st,x.1<l.length∧0≤x.2
 | [],_,_,x,hx=>by cases hx
 | (o,c)::st,pos,h,x,hx=>by
  obtain ⟨h1,h2,h3,h4,h5,h6⟩:=h
  rcases List.mem_cons.1 hx with rfl | hx
  ·refine ⟨?_,h2⟩
   show o<l.length
   apply Classical.byContradiction
   intro hn
   have:zA l o=o:=by
    unfold zA headSize
    rw [List.drop_eq_nil_of_le (by omega),kZ];rfl
   cases hc:c.toNat with
   | zero =>
    rw [hc,advT] at h3
    have:=Option.some.inj h3
    omega
   | succ k =>
    rw [hc,advT] at h3
    split at h3
    ·omega
    ·cases h3
  ·exact UpInv.len h6 x hx
end Go.Proofs.YtfalelkfhandfaaGreatDoor
namespace Go.Proofs.YtfalelkfhandfaaGreatDoor
set_option linter.all false

def wL1:List (List UInt8):=[[124,124]]
def wL2:List (List UInt8):=[[38,38]]
def wL3:List (List UInt8):=[[61,61],[33,61],[60],[60,61],[62],[62,61]]
def wL4:List (List UInt8):=[[43],[45],[124],[94]]
def wL5:List (List UInt8):=[[42],[47],[37],[60,60],[62,62],[38],[38,94]]
def lvW (w:ByteArray):Nat:=if w.toList∈wL1 then 1 else if w.toList∈wL2 then 2 else if w.toList∈wL3 then 3 else if w.toList∈wL4 then 4 else if w.toList∈wL5 then 5 else 1
def yP (p:Prt):Nat:=if p.1=36∨p.1=35 then 6 else if p.1=37 then lvW p.2.2 else 7
def looseZ (p:Prt) (nth:Nat) (kid:Prt):Bool :=
 if p.1=37 then (decide (nth=0)&&decide (yP kid<yP p)) || (decide (nth=1)&&decide (yP kid≤yP p))
 else if p.1=35∨p.1=36 then decide (yP kid<6)
 else if 29≤p.1∧p.1≤34 then decide (nth=0)&&decide (yP kid<7)
 else if p.1=61 then decide (nth=2)&&decide (yP kid<7)
 else false
def yK (p:Prt) (nth:Nat):Nat :=
 if p.1=37 then (if nth=0 then yP p else if nth=1 then yP p+1 else 0)
 else if p.1=35∨p.1=36 then 6
 else if 29≤p.1∧p.1≤34 then (if nth=0 then 7 else 0)
 else if p.1=61 then (if nth=2 then 7 else 0)
 else 0
theorem zKd (p:Prt) (nth:Nat) (kid:Prt):decide (yP kid<yK p nth)=looseZ p nth kid:=by
 unfold yK looseZ
 by_cases h1:p.1=37
 ·rw [if_pos h1,if_pos h1]
  by_cases h2:nth=0
  ·subst h2;simp
  ·rw [if_neg h2]
   by_cases h3:nth=1
   ·subst h3;simp;omega
   ·rw [if_neg h3];simp [h2,h3]
 ·rw [if_neg h1,if_neg h1]
  by_cases h2:p.1=35∨p.1=36
  ·rw [if_pos h2,if_pos h2]
  ·rw [if_neg h2,if_neg h2]
   by_cases h3:29≤p.1∧p.1≤34
   ·rw [if_pos h3,if_pos h3]
    by_cases h4:nth=0
    ·simp [h4]
    ·simp [h4]
   ·rw [if_neg h3,if_neg h3]
    by_cases h4:p.1=61
    ·rw [if_pos h4,if_pos h4]
     by_cases h5:nth=2
     ·simp [h5]
     ·simp [h5]
    ·rw [if_neg h4,if_neg h4];simp
abbrev PN:=Prt×Int
def paren:PN:=((28,1,ByteArray.empty),-1)
def brk (p:Prt) (nth:Nat) (kid:Prt):List PN:=if looseZ p nth kid then [paren] else []
section
variable (l:List Prt) (from':List Int)
def pnAt (i:Nat):PN:=(l.getD i (0,0,ByteArray.empty),from'.getD i 0)
def zT (i:Nat):Prt:=l.getD i (0,0,ByteArray.empty)
mutual
def gPart:Nat→Nat→List PN
 | 0,_=>[]
 | n+1,i=>pnAt l from' i::gKids n (zT l i) 0 (i+1) (zA l i)
def gKids:Nat→Prt→Nat→Nat→Nat→List PN
 | 0,_,_,_,_=>[]
 | n+1,p,nth,k,stop=>if k=stop then [] else brk p nth (zT l k)++(gPart n k++gKids n p (nth+1) (zA l k) stop)
end
def looseAt (j:Nat):Bool:=match upN l j with
 | .ofNat p=>looseZ (zT l p) ((kidsB l p).idxOf j) (zT l j)
 | .negSucc _=>false
def gOne (j:Nat):List PN:=(if looseAt l j then [paren] else [])++[pnAt l from' j]
def gSeg (a b:Nat):List PN:=(List.range' a (b-a)).flatMap (gOne l from')
theorem zDx {a b c:Nat} (h1:a≤b) (h2:b≤c):gSeg l from' a c=gSeg l from' a b++gSeg l from' b c:=by
 unfold gSeg
 rw [← List.flatMap_append,show c-a=(b-a)+(c-b) by omega]
 congr 1
 have:=List.range'_append (s:=a) (m:=b-a) (n:=c-b) (step:=1)
 rw [Nat.one_mul,show a+(b-a)=b by omega] at this
 exact this.symm
theorem zKe (a:Nat):gSeg l from' a (a+1)=gOne l from' a:=by
 unfold gSeg
 rw [show a+1-a=1 by omega]
 simp [List.range'_succ]
theorem zSe (a:Nat):gSeg l from' a a=[]:=by unfold gSeg;rw [Nat.sub_self];rfl
variable {l}
theorem zGn {us:List Nat} (hl:zF l=some us) {i:Nat} (hi:i<l.length):∃ q,(l[i]).2.1=((q:Nat):Int)∧advT l q (i+1) (zA l i)=some (zA l i)∧(kidsB l i).length=q∧∀ n,n<q→(kidsB l i)[n]?=some (zO l n (i+1)):=by
 obtain ⟨ts,q,h1,h2,h3,h4,h5⟩:=zAt hl hi
 obtain ⟨q',g1,g2⟩:=yW hl hi
 obtain rfl:q=q':=by omega
 refine ⟨q,h2,g2,by rw [h5,List.length_take,xG];omega,fun n hn=>?_⟩
 have hk:∀ m n,n+m≤q→zO l m (i+1+(ts.take n).sum)=i+1+(ts.take (n+m)).sum:=by
  intro m
  induction m with
  | zero=>intro n _;rfl
  | succ m ih =>
   intro n hn
   obtain ⟨_,k2,_⟩:=gL hl h1 h3 (show n<q by omega)
   rw [zO,k2,ih (n+1) (by omega)]
   congr 3;omega
 have:=hk n 0 (by omega)
 simp only [List.take_zero,List.sum_nil,Nat.add_zero,Nat.zero_add] at this
 rw [this,h5,List.getElem?_take,if_pos hn]
 have hg:=gZ ts (i+1) n (by omega)
 have hl2:=xG ts (i+1)
 rw [List.getD_eq_getElem?_getD,List.getElem?_eq_getElem (by omega)] at hg
 rw [List.getElem?_eq_getElem (by omega)]
 simpa using hg
theorem zSf {us:List Nat} (hl:zF l=some us) {stop k:Nat} (hs:stop≤l.length) {n m b c:Nat} (hb:advT l n k stop=some b) (hc:advT l m k stop=some c) (h:n<m):b<c:=by
 rw [show m=n+(m-n) by omega,kS,hb,Option.bind_some] at hc
 have:=yZ hl _ _ _ _ hs hc
 omega
theorem zPf {us:List Nat} (hl:zF l=some us) {i:Nat} (hi:i<l.length) {n k:Nat} (hk:advT l n (i+1) (zA l i)=some k) (hlt:k<zA l i):looseAt l k=looseZ (zT l i) n (zT l k):=by
 obtain ⟨q,h1,h2,h3,h4⟩:=zGn hl hi
 have hg:=zJ hl hi
 have hle:=yZ hl _ _ _ _ hg.2 hk
 obtain ⟨r1,r2,r3⟩:=vI hl hg.2 h2 hk
 have hnq:n<q:=by
  rcases Nat.lt_or_ge n q with c | c
  ·exact c
  ·exfalso
   have:q=n:=by omega
   subst this
   rw [h2] at hk;cases hk;omega
 have hup:upN l k=(i:Int):=by
  apply zTw hl hi (by omega) hlt
  intro j hj1 hj2
  -- j lies within an earlier kid
  have key:∀ m b,advT l m (i+1) (zA l i)=some b→∀ j,i<j→j<b→zA l j≤b:=by
   intro m
   induction m with
   | zero=>intro b hb j h1 h2;rw [advT] at hb;cases hb;omega
   | succ m ih =>
    intro b hb j g1 g2
    rw [kS l m 1] at hb
    cases hm:advT l m (i+1) (zA l i) with
    | none=>rw [hm] at hb;cases hb
    | some c =>
     rw [hm,Option.bind_some,advT] at hb
     split at hb
     ·rename_i hc
      rw [advT] at hb
      cases hb
      rcases Nat.lt_trichotomy j c with c1 | c1 | c1
      ·have h1:=ih c hm j g1 c1
       have:=(zJ hl (show c<l.length by omega)).1
       omega
      ·subst c1;exact Nat.le_refl _
      ·-- within the tree at c
       have hc1:c<l.length:=by omega
       have hp:=zAp hl hc1
       have hgc:=zJ hl hc1
       have hS:=zAq hl (show c≤zA l c by omega) (kJ.1 hp.1)
       have hx:j-c<(piece l c (zA l c)).length:=by rw [hp.2];omega
       have e1:=hS.end_ hx
       have e2:=zJ (kJ.1 hp.1) hx
       rw [hp.2] at e2
       rw [show j-c+c=j by omega] at e1
       omega
     ·cases hb
  exact key n k hk j hj1 hj2
 unfold looseAt
 rw [hup]
 show looseZ (zT l i) ((kidsB l i).idxOf k) (zT l k)=_
 have e:(kidsB l i)[n]?=some k:=by rw [h4 n hnq,gT hk]
 congr 1
 rw [List.idxOf,List.findIdx_eq (by rw [h3];exact hnq)]
 obtain ⟨hn',he⟩:=List.getElem?_eq_some_iff.1 e
 refine ⟨by simpa using he,fun j hj=>?_⟩
 have hjq:j<q:=by omega
 have ej:=h4 j hjq
 obtain ⟨_,he2⟩:=List.getElem?_eq_some_iff.1 ej
 rw [he2]
 simp only [beq_eq_false_iff_ne]
 intro e3
 have hadv:∃ b,advT l j (i+1) (zA l i)=some b:=by
  have:=h2
  rw [show q=j+(q-j) by omega,kS] at this
  cases hj':advT l j (i+1) (zA l i) with
  | none=>rw [hj'] at this;cases this
  | some b=>exact ⟨b,rfl⟩
 obtain ⟨b,hb⟩:=hadv
 have:=zSf hl hg.2 hb hk hj
 rw [gT hb] at e3
 omega
variable (l)
theorem zWd {us:List Nat} (hl:zF l=some us):∀ n,(∀ i,i<l.length→2*(zA l i-i)≤n→gPart l from' n i=pnAt l from' i::gSeg l from' (i+1) (zA l i)) ∧
  (∀ i k nth,i<l.length→advT l nth (i+1) (zA l i)=some k→k≤zA l i→2*(zA l i-k)+1≤n→gKids l from' n (zT l i) nth k (zA l i)=gSeg l from' k (zA l i))
 | 0=>⟨(fun i hi h=>by have:=(zJ hl hi).1;omega),(fun _ _ _ _ _ _ h=>by omega)⟩
 | n+1=>by
  obtain ⟨h1,h2⟩:=zWd hl n
  constructor
  ·intro i hi h
   have hg:=zJ hl hi
   rw [gPart,h2 i (i+1) 0 hi rfl (by omega) (by omega)]
  ·intro i k nth hi hk hle h
   have hg:=zJ hl hi
   rw [gKids]
   split
   ·rename_i e;subst e;rw [zSe]
   ·rename_i e
    have hkl:k<zA l i:=by omega
    have hgk:=zJ hl (show k<l.length by omega)
    obtain ⟨q,_,hq⟩:=yW hl hi
    obtain ⟨_,_,r3⟩:=vI hl hg.2 hq hk
    obtain ⟨_,J,_,hJ⟩:=yR r3 e
    have hle2:=yZ hl _ _ _ _ hg.2 hJ
    have hk2:advT l (nth+1) (i+1) (zA l i)=some (zA l k):=by rw [kS,hk,Option.bind_some,advT,if_pos hkl,advT]
    rw [h1 k (by omega) (by omega),h2 i (zA l k) (nth+1) hi hk2 (by omega) (by omega)]
    rw [zDx l from' (show k≤k+1 by omega) (show k+1≤zA l i by omega),zKe,zDx l from' (show k+1≤zA l k by omega) (show zA l k≤zA l i by omega)]
    unfold gOne brk
    rw [zPf hl hi hk hkl]
    simp
def guardZ:List PN:=gSeg l from' 0 l.length
theorem zDy (hl:zZ l=true):gPart l from' (2*l.length) 0=guardZ l from':=by
 have h0:=yD hl
 have hw:=zI hl
 rw [(zWd l from' hw _).1 0 h0.1 (by rw [h0.2];omega),h0.2]
 unfold guardZ
 rw [zDx l from' (show 0≤1 by omega) (show 1≤l.length by omega),zKe]
 unfold gOne looseAt
 have:upN l 0=Int.negSucc 0:=rfl
 rw [this]
 rfl
end
section
variable (l:List Prt) (from':List Int)
end
end Go.Proofs.YtfalelkfhandfaaGreatDoor
