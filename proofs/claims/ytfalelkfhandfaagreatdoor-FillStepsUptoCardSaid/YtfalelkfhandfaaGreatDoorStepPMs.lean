/- Layer 20 in plain Lean: what a rule makes, and a list with picks made. -/
import Derived.Test.YtfalelkfhandfaaGreatDoorRuleVMs
import Derived.Test.YtfalelkfhandfaaGreatDoorCheckBMs
namespace Go.Proofs.YtfalelkfhandfaaGreatDoor
set_option linter.all false

def okB (l:List Prt) (h:Hl) (b:Bnd):Bool :=
 decide (b.1=h.1)&&(decide (0≤b.2.1∧b.2.1≤b.2.2∧b.2.2≤l.length)&&(decide (0≤yT (piece l b.2.1.toNat b.2.2.toNat))&&(isSev h.2 || (decide (yT (piece l b.2.1.toNat b.2.2.toNat)=1)&&mayB h.2 (yJ l b.2.1.toNat)))))
def rightB (r:RuleM) (l:List Prt) (bs:List Bnd):Bool:=decide (bs.length=r.holes.length)&&(r.holes.zip bs).all fun x=>okB l x.1 x.2
theorem vU {r:RuleM} {l:List Prt} {bs:List Bnd}:rightB r l bs=true↔bs.length=r.holes.length∧∀ h (hh:h<r.holes.length) (hb:h<bs.length),okB l r.holes[h] bs[h]=true:=by
 unfold rightB
 rw [Bool.and_eq_true,decide_eq_true_eq,List.all_eq_true]
 constructor
 ·rintro ⟨h1,h2⟩
  refine ⟨h1,fun h hh hb=>?_⟩
  exact h2 (r.holes[h],bs[h]) (List.mem_iff_getElem.2 ⟨h,by rw [List.length_zip];omega,by rw [List.getElem_zip]⟩)
 ·rintro ⟨h1,h2⟩
  refine ⟨h1,fun x hx=>?_⟩
  obtain ⟨h,hl,rfl⟩:=List.mem_iff_getElem.1 hx
  rw [List.length_zip] at hl
  rw [List.getElem_zip]
  exact h2 h (by omega) (by omega)
theorem zMg {l:List Prt} {h:Hl} {b:Bnd} (hb:okB l h b=true):b.1=h.1∧(0≤b.2.1∧b.2.1≤b.2.2∧b.2.2≤l.length)∧0≤yT (piece l b.2.1.toNat b.2.2.toNat)∧(isSev h.2=false→yT (piece l b.2.1.toNat b.2.2.toNat)=1∧mayB h.2 (yJ l b.2.1.toNat)=true):=by
 unfold okB at hb
 simp only [Bool.and_eq_true,decide_eq_true_eq,Bool.or_eq_true] at hb
 refine ⟨hb.1,hb.2.1,hb.2.2.1,fun hs=>?_⟩
 rcases hb.2.2.2 with h1 | h1
 ·rw [hs] at h1;cases h1
 ·exact h1
theorem jK {r:RuleM} {l:List Prt} {bs:List Bnd} (h:rightB r l bs=true):BindsIn bs l:=by
 obtain ⟨h1,h2⟩:=vU.1 h
 intro x hx
 obtain ⟨k,hk,rfl⟩:=List.mem_iff_getElem.1 hx
 exact (zMg (h2 k (by omega) hk)).2.1
def madeP (r:RuleM) (l:List Prt) (bs:List Bnd):List PN:=mPart r.by' l r.holes (bOf bs) (fuelZ r.by') 0
def outP (r:RuleM) (l:List Prt) (bs:List Bnd):List PN:=if r.goal=3 then (madeP r l bs).drop 1 else madeP r l bs
def xX (r:RuleM) (l:List Prt) (bs:List Bnd):Int:=yT ((outP r l bs).map (·.1))
def fillZ (r:RuleM) (l:List Prt) (bs:List Bnd):List PN×Int :=
 if ruleZ r≠0 then ([],ruleZ r) else if zZ l=false then ([],8) else if rightB r l bs=false then ([],1) else if 131072<(outP r l bs).length then ([],2) else (outP r l bs,0)
abbrev Pk:=Int×Int×List Bnd
def yE (rules:List RuleM) (l:List Prt):List Pk→Int→Int→Int
 | [],_,size=>if 131072<size then 2 else 0
 | (n,x,bs)::P,free,size =>
  if n<0∨rules.length≤n∨x<free∨l.length≤x then 1 else match rules[n.toNat]? with
  | none=>1
  | some r=>if rightB r l bs=false then 1 else if 131072<(outP r l bs).length then 2
   else if xX r l bs≠1∧(x=0∨kindU l (upN l x.toNat)≠13) then 12
   else yE rules l P (zC l x.toNat) (size+(outP r l bs).length-((zC l x.toNat:Int)-x))
def mkOf (rules:List RuleM) (l:List Prt) (p:Pk):Mk:=match rules[p.1.toNat]? with
 | some r=>(p.2.1.toNat,outP r l p.2.2,xX r l p.2.2-1)
 | none=>(p.2.1.toNat,[],0)
def yA (rules:List RuleM) (l:List Prt) (P:List Pk):List Mk:=P.map (mkOf rules l)
def stepOut (rules:List RuleM) (l:List Prt) (P:List Pk):List PN:=outGo l (yA rules l P) (l.length+1) 0 (yA rules l P)
def withZ (o:List PN):List PN×Int:=if zZ (o.map (·.1))=true then (guardZ (o.map (·.1)) (o.map (·.2)),0) else ([],8)
def stepZ (rules:List RuleM) (l:List Prt) (P:List Pk):List PN×Int :=
 if yX rules l≠0 then ([],yX rules l) else if yE rules l P 0 l.length≠0 then ([],yE rules l P 0 l.length) else withZ (stepOut rules l P)
theorem zAy {rules:List RuleM} {l:List Prt} {n x:Int} {bs:List Bnd} {P:List Pk} {free size:Int} (h:yE rules l ((n,x,bs)::P) free size=0) :
  0≤n∧free≤x∧x<l.length∧∃ r,rules[n.toNat]?=some r∧rightB r l bs=true∧(outP r l bs).length≤131072∧¬ (xX r l bs≠1∧(x=0∨kindU l (upN l x.toNat)≠13))∧yE rules l P (zC l x.toNat) (size+(outP r l bs).length-((zC l x.toNat:Int)-x))=0:=by
 rw [yE] at h
 split at h
 ·cases h
 ·rename_i h1
  cases hr:rules[n.toNat]? with
  | none=>rw [hr] at h;cases h
  | some r =>
   rw [hr] at h
   simp only [] at h
   split at h
   ·cases h
   ·rename_i h2
    split at h
    ·cases h
    ·rename_i h3
     split at h
     ·cases h
     ·rename_i h4
      exact ⟨by omega,by omega,by omega,r,rfl,by simpa using h2,by omega,h4,h⟩
theorem zDr {rules:List RuleM} {l:List Prt} {n x:Int} {bs:List Bnd} {r:RuleM} (h:rules[n.toNat]?=some r):mkOf rules l (n,x,bs)=(x.toNat,outP r l bs,xX r l bs-1):=by
 unfold mkOf
 simp only []
 rw [h]
theorem gU {rules:List RuleM} {l:List Prt}:∀ {P:List Pk} {free:Nat} {size:Int},yE rules l P free size=0→Free l free (yA rules l P)
 | [],_,_,_=>trivial
 | (n,x,bs)::P,free,size,h=>by
  obtain ⟨h1,h2,h3,r,hr,_,_,_,h4⟩:=zAy h
  unfold yA
  rw [List.map_cons,zDr hr]
  exact ⟨by omega,by omega,gU h4⟩
section
variable {t l:List Prt} {hs:List Hl} {b:Nat→Nat×Nat}
end
section
variable (l:List Prt) (all:List Mk)
theorem zCh {us:List Nat} (hl:zG l=some us):∀ (n i:Nat) (P:List Mk),∀ y∈outGo l all n i P,(∃ j,j<l.length∧y=stayN l all j)∨∃ p∈P,y∈p.2.1
 | 0,i,P,y,h=>by rw [outGo] at h;cases h
 | n+1,i,[],y,h=>by
  rw [outGo] at h
  split at h
  ·rename_i hi
   rcases List.mem_cons.1 h with rfl | h
   ·exact Or.inl ⟨i,hi,rfl⟩
   ·rcases zCh hl n (i+1) [] y h with g | ⟨p,hp,_⟩
    ·exact Or.inl g
    ·cases hp
  ·cases h
 | n+1,i,(x,m,d)::R,y,h=>by
  rw [outGo] at h
  split at h
  ·rename_i hi
   split at h
   ·rcases List.mem_append.1 h with h | h
    ·exact Or.inr ⟨(x,m,d),by simp,h⟩
    ·rcases zCh hl n (zC l i) R y h with g | ⟨p,hp,g⟩
     ·exact Or.inl g
     ·exact Or.inr ⟨p,by simp [hp],g⟩
   ·rcases List.mem_cons.1 h with rfl | h
    ·exact Or.inl ⟨i,hi,rfl⟩
    ·exact zCh hl n (i+1) _ y h
  ·cases h
end
end Go.Proofs.YtfalelkfhandfaaGreatDoor
namespace Go.Proofs.YtfalelkfhandfaaGreatDoor
set_option linter.all false

theorem zKp {r:RuleM} {l:List Prt} {bs:List Bnd} (h:bs.length≠r.holes.length):rightB r l bs=false:=by
 cases e:rightB r l bs with
 | false=>rfl
 | true=>exact absurd (vU.1 e).1 h
theorem zPb {r:RuleM} {l:List Prt} {bs:List Bnd} {n:Nat} (hh:n<r.holes.length) (hb:n<bs.length) (h:okB l r.holes[n] bs[n]=false):rightB r l bs=false:=by
 cases e:rightB r l bs with
 | false=>rfl
 | true =>
  have:=(vU.1 e).2 n hh hb
  rw [h] at this
  cases this
def RightTo (r:RuleM) (l:List Prt) (bs:List Bnd) (n:Nat):Prop:=∀ i (hh:i<r.holes.length) (hb:i<bs.length),i<n→okB l r.holes[i] bs[i]=true
theorem zKq {r:RuleM} {l:List Prt} {bs:List Bnd} (hl:bs.length=r.holes.length) (h:RightTo r l bs bs.length):rightB r l bs=true:=vU.2 ⟨hl,fun i hh hb=>h i hh hb hb⟩
theorem RightTo.next {r:RuleM} {l:List Prt} {bs:List Bnd} {n:Nat} (h:RightTo r l bs n) (hk:∀ (hh:n<r.holes.length) (hb:n<bs.length),okB l r.holes[n] bs[n]=true):RightTo r l bs (n+1):=fun i hh hb hi=>by
 by_cases e:i=n
 ·subst e;exact hk hh hb
 ·exact h i hh hb (by omega)
section
variable {l:List Prt} {h:Hl} {b:Bnd}
theorem zPc (e:b.1≠h.1):okB l h b=false:=by unfold okB;rw [decide_eq_false e];rfl
theorem zCf (e:¬ (0≤b.2.1∧b.2.1≤b.2.2∧b.2.2≤l.length)):okB l h b=false:=by unfold okB;rw [decide_eq_false e];simp
theorem zKr (e:yT (piece l b.2.1.toNat b.2.2.toNat)<0):okB l h b=false:=by unfold okB;rw [decide_eq_false (show ¬ 0≤yT (piece l b.2.1.toNat b.2.2.toNat) by omega)];simp
theorem zSc (hs:isSev h.2=false) (e:yT (piece l b.2.1.toNat b.2.2.toNat)≠1):okB l h b=false:=by unfold okB;rw [hs,decide_eq_false e];simp
theorem zSd (hs:isSev h.2=false) (e:mayB h.2 (yJ l b.2.1.toNat)=false):okB l h b=false:=by unfold okB;rw [hs,e];simp
theorem zGa (e1:b.1=h.1) (e2:0≤b.2.1∧b.2.1≤b.2.2∧b.2.2≤l.length) (e3:0≤yT (piece l b.2.1.toNat b.2.2.toNat)) (e4:isSev h.2=false→yT (piece l b.2.1.toNat b.2.2.toNat)=1∧mayB h.2 (yJ l b.2.1.toNat)=true):okB l h b=true:=by
 unfold okB
 rw [decide_eq_true e1,decide_eq_true e2,decide_eq_true e3]
 cases hs:isSev h.2 with
 | true=>rfl
 | false =>
  obtain ⟨e5,e6⟩:=e4 hs
  rw [decide_eq_true e5,e6];rfl
end
end Go.Proofs.YtfalelkfhandfaaGreatDoor
namespace Go.Proofs.YtfalelkfhandfaaGreatDoor
set_option maxRecDepth 100000
set_option maxHeartbeats 32000000
set_option linter.all false
attribute [local irreducible] Calls
open Go.RowKit

def upsL (l:List Prt):List Int:=(List.range l.length).map (upN l)
theorem jA (l:List Prt):(upsL l).length=l.length:=by simp [upsL]
theorem zIf {l:List Prt} {j:Nat} (hj:j<(upsL l).length):(upsL l)[j]=upN l j:=by simp [upsL]
theorem zGc (l:List Prt) (u:Int) (n:Nat) (hn:n≠69):(kindI l u == some n)=(kindU l u == (n:Int)):=by
 unfold kindU
 cases kindI l u with
 | none=>simp;omega
 | some k=>rw [Bool.eq_iff_iff];simp;omega
theorem zPd (l:List Prt) (hl:l.length≤1000000000) (v vup:Value) (w:World) (hr:zD w v l) (hup:zI w vup .i64 (upsL l)) (i:Nat) (hi:i<l.length) (k:Nat) :
  Calls Tryz.prog 85 #[v,vup,.int .i64 (i:Int),.int .u8 (k:Int)] w fun e w'=>e=.returned (.bool (xP l k i))∧w=w':=by
 have HQ:Hid (∀ x,xP l k i=x→(fun (e:Ending) w'=>e=.returned (.bool (xP l k i))∧w=w') (.returned (.bool x)) w):=Hd fun x h=>⟨by rw [h],rfl⟩
 generalize (fun (e:Ending) w'=>e=.returned (.bool (xP l k i))∧w=w')=Q at *
 have hge:=zRd l i
 have hlt:=zAd l i
 have CK:=Hd (fun u h1 h2=>zUo l hl v u h1 h2 w hr)
 obtain ⟨ua,ucap,hv,hc,hrow⟩:=hup.open'
 obtain ⟨b,off,rfl,_,hcell⟩:=hrow (by rw [jA];omega)
 subst hv
 have c0:w.cell? ⟨b,off+i,none⟩=some (.int .i64 (upN l i)):=by rw [hcell i (by rw [jA];exact hi),zIf]
 rw [jA] at hc ⊢
 have HC:=Hd hcell
 have hi0:(0:Int)≤(i:Int):=by omega
 have hil:(i:Int)<l.length:=by omega
 clear hrow hup hr hcell
 have HP:Hid (xP l k i=if k=5 then kindU l (upN l i) == 50 else if k=7 then (kindU l (upN l i) == 50&&kindU l (upN l (upN l i).toNat) == 13) else if k=6 then (kindU l (upN l i) == 11 || kindU l (upN l i) == 12) else true):=Hd (by
  unfold xP
  rw [zGc _ _ 50 (by omega),zGc _ _ 13 (by omega),zGc _ _ 11 (by omega),zGc _ _ 12 (by omega)];rfl)
 have C1:=Hd (CK.out (upN l i) hge (by omega))
 by_cases k5:k=5
 ·subst k5
  have HX:=Hd (HQ.out _ HP.out)
  rw [if_pos rfl] at HX
  generalize upN l i=u at *
  generalize kindU l u=x at *
  go_enter Tryz.func85,Tryz.ntmps85
  go_wp2_with fail
  refine C1.out.mono ?_
  rintro e w2 ⟨rfl,rfl⟩
  go_wp2_with fail
  exact HX.out
 have hn5:((k:Int) == 5)=false:=by rw [beq_eq_false_iff_ne];omega
 have hm5:(k == 5)=false:=by rw [beq_eq_false_iff_ne];exact k5
 by_cases k7:k=7
 ·subst k7
  have HX:=Hd (HQ.out _ HP.out)
  rw [if_neg (by omega),if_pos rfl] at HX
  by_cases hx:kindU l (upN l i)=50
  ·have hu0:0≤upN l i:=by
    by_cases c:upN l i<0
    ·unfold kindU kindI at hx
     rw [if_pos c] at hx
     cases hx
    ·omega
   obtain ⟨j,hj⟩:∃ j:Nat,upN l i=(j:Int):=⟨(upN l i).toNat,by omega⟩
   have hjl:j<l.length:=by omega
   have c1:w.cell? ⟨b,off+j,none⟩=some (.int .i64 (upN l j)):=by rw [HC.out j (by rw [jA];exact hjl),zIf]
   have C2:=Hd (CK.out (upN l j) (zRd l j) (by have:=zAd l j;omega))
   rw [hx,hj,Int.toNat_natCast] at HX
   rw [hx] at C1
   rw [hj] at C1 c0
   have hj0:(0:Int)≤(j:Int):=by omega
   have hjli:(j:Int)<l.length:=by omega
   clear hx hj hge hlt hu0 HP HQ
   generalize upN l j=u at *
   generalize kindU l u=y at *
   go_enter Tryz.func85,Tryz.ntmps85
   go_wp2_with fail
   refine C1.out.mono ?_
   rintro e w2 ⟨rfl,rfl⟩
   go_wp2_with fail
   refine C2.out.mono ?_
   rintro e w2 ⟨rfl,rfl⟩
   go_wp2_with fail
   exact HX.out
  ·have hxb:(kindU l (upN l i) == 50)=false:=by rw [beq_eq_false_iff_ne];exact hx
   rw [hxb,Bool.false_and] at HX
   clear hx HP HQ
   generalize upN l i=u at *
   generalize kindU l u=x at *
   go_enter Tryz.func85,Tryz.ntmps85
   go_wp2_with fail
   refine C1.out.mono ?_
   rintro e w2 ⟨rfl,rfl⟩
   go_wp2_with fail
   exact HX.out
 have hn7:((k:Int) == 7)=false:=by rw [beq_eq_false_iff_ne];omega
 have hm7:(k == 7)=false:=by rw [beq_eq_false_iff_ne];exact k7
 by_cases k6:k=6
 ·subst k6
  have HX:=Hd (HQ.out _ HP.out)
  rw [if_neg (by omega),if_neg (by omega),if_pos rfl] at HX
  clear HP HQ
  generalize upN l i=u at *
  generalize kindU l u=x at *
  cases hx:x == 11 with
  | true =>
   rw [hx,Bool.true_or] at HX
   go_enter Tryz.func85,Tryz.ntmps85
   go_wp2_with fail
   refine C1.out.mono ?_
   rintro e w2 ⟨rfl,rfl⟩
   go_wp2_with fail
   exact HX.out
  | false =>
   rw [hx,Bool.false_or] at HX
   go_enter Tryz.func85,Tryz.ntmps85
   go_wp2_with fail
   refine C1.out.mono ?_
   rintro e w2 ⟨rfl,rfl⟩
   go_wp2_with fail
   refine C1.out.mono ?_
   rintro e w2 ⟨rfl,rfl⟩
   go_wp2_with fail
   exact HX.out
 ·have hn6:((k:Int) == 6)=false:=by rw [beq_eq_false_iff_ne];omega
  have HX:=Hd (HQ.out _ HP.out)
  rw [if_neg k5,if_neg k7,if_neg k6] at HX
  clear HP HQ
  go_enter Tryz.func85,Tryz.ntmps85
  go_wp2_with fail
  exact HX.out
end Go.Proofs.YtfalelkfhandfaaGreatDoor
namespace Go.Proofs.YtfalelkfhandfaaGreatDoor
set_option maxRecDepth 100000
set_option maxHeartbeats 32000000
set_option linter.all false
attribute [local irreducible] Calls
open Go.RowKit

theorem yG {x y:ByteArray} (h:x≠y):x.toList≠y.toList:=fun e=>h (by
 rw [ByteArray.toList_eq,ByteArray.toList_eq] at e
 exact ByteArray.ext (Array.ext' e))
def UpsC (l:List Prt):Prop:=∀ (v:Value) (w:World),zD w v l→Calls Tryz.prog 84 #[v] w fun e w'=>∃ v',e=.returned v'∧Below w.heap.size w w'∧zI w' v' .i64 (upsL l)
@[irreducible] def vC (z:Int) (w0:World) (e:Ending) (w':World):Prop :=
 Below w0.heap.size w0 w'∧e=if 0≤z then .returned (.tuple #[.int .i64 z,.bool true]) else .returned (.tuple #[.int .i64 0,.bool false])
def plRel (l:List Prt) (h:Hl) (w0:World) (nv iv:Value) (wr:World):Prop :=
 ∃ k n:Nat,iv=.int .i64 (k:Int)∧nv=.int .i64 (n:Int)∧k≤l.length∧n≤k∧vD l h (l.length-k) k (n:Int)=yU l h∧Below w0.heap.size w0 wr
theorem fP (l:List Prt) (hl:l.length≤1000000000) (hf:∀ p∈l,p.1<256) (CU:UpsC l) (v:Value) (h:Hl) (w:World) (hr:zD w v l) :
  Calls Tryz.prog 62 #[v,.agg #[.string h.1,.int .u8 (h.2:Int)]] w (vC (yU l h) w):=by
 have HQ:Hid (∀ w',Below w.heap.size w w'→0≤yU l h→vC (yU l h) w (.returned (.tuple #[.int .i64 (yU l h),.bool true])) w'):=Hd fun w' hb hz=>by
  unfold vC;rw [if_pos hz];exact ⟨hb,rfl⟩
 have HN:Hid (∀ w',Below w.heap.size w w'→yU l h=-1→vC (yU l h) w (.returned (.tuple #[.int .i64 0,.bool false])) w'):=Hd fun w' hb hz=>by
  unfold vC;rw [if_neg (by omega)];exact ⟨hb,rfl⟩
 generalize vC (yU l h) w=Q at *
 have hbx:Below w.heap.size w (w.alloc (.cells #[.string h.1,.int .u8 (h.2:Int)] 49)):=(Below.refl _ _).alloc (Nat.le_refl _) _
 have HBX:=Hd hbx
 have CU:=Hd (CU v _ (hr.below hbx))
 have e0:(w.alloc (.cells #[.string h.1,.int .u8 (h.2:Int)] 49)).cell? ⟨w.heap.size,0,none⟩=some (.string h.1):=World.cell?_alloc_at _ _ _ _ rfl
 have e1:(w.alloc (.cells #[.string h.1,.int .u8 (h.2:Int)] 49)).cell? ⟨w.heap.size,1,none⟩=some (.int .u8 (h.2:Int)):=World.cell?_alloc_at _ _ _ _ rfl
 have hz0:w.heap.size<(w.alloc (.cells #[.string h.1,.int .u8 (h.2:Int)] 49)).heap.size:=by simp
 have HR:=Hd hr
 obtain ⟨va,vcap,rfl,hvc⟩:=hr.slice
 clear hr hbx
 go_enter Tryz.func62,Tryz.ntmps62
 go_wp2_with fail
 refine CU.out.mono ?_
 rintro e w1 ⟨vu,rfl,hb1,hup⟩
 have HB1:=Hd (zB HBX.out hb1)
 have HU:=Hd hup
 have HE0:=Hd (show w1.cell? ⟨w.heap.size,0,none⟩=some (.string h.1) by rw [hb1.cell (p:=⟨w.heap.size,0,none⟩) hz0];exact e0)
 have HE1:=Hd (show w1.cell? ⟨w.heap.size,1,none⟩=some (.int .u8 (h.2:Int)) by rw [hb1.cell (p:=⟨w.heap.size,1,none⟩) hz0];exact e1)
 have HZ1:=Hd (show w.heap.size<w1.heap.size from Nat.lt_of_lt_of_le hz0 hb1.size)
 obtain ⟨ua,ucap,hvu,_,_⟩:=hup.open'
 subst hvu
 clear hb1 hup e0 e1 hz0 CU HBX
 go_wp2_with fail
 go_loopw [6,14] (fun nv iv wr=>plRel l h w1 nv iv wr) (fun _ iv _=>l.length-(intOf iv).toNat)
 case atStart=>exact ⟨0,0,rfl,rfl,Nat.zero_le _,Nat.le_refl _,rfl,Below.refl _ _⟩
 case round =>
  obtain ⟨k,n,rfl,rfl,hk,hnk,hpf,hb⟩:=hrel
  have HB:=Hd hb
  have HPF:=Hd hpf
  clear hb hpf
  by_cases hlt:k<l.length
  ·obtain ⟨b,off,rfl,_,_,hbl,hcell⟩:=HR.out.at (zB HB1.out HB.out) (show 0<l.length by omega)
   obtain ⟨d0,d1,d2⟩:=hcell k hlt
   have hs:=HPF.out
   rw [show l.length-k=(l.length-(k+1))+1 by omega,vD,List.getElem?_eq_getElem hlt] at hs
   generalize hp:l[k]=p at *
   obtain ⟨a,c,s⟩:=p
   simp only [] at d0 d1 d2 hs
   have hbp:Below w1.heap.size w1 (wr.alloc (.cells #[.int .u8 (a:Int),.int .i64 c,.string s] 38)):=HB.out.alloc HB.out.size _
   have g0:(wr.alloc (.cells #[.int .u8 (a:Int),.int .i64 c,.string s] 38)).cell? ⟨w.heap.size,0,none⟩=some (.string h.1):=by
    rw [hbp.cell (p:=⟨w.heap.size,0,none⟩) HZ1.out];exact HE0.out
   have g1:(wr.alloc (.cells #[.int .u8 (a:Int),.int .i64 c,.string s] 38)).cell? ⟨w.heap.size,1,none⟩=some (.int .u8 (h.2:Int)):=by
    rw [hbp.cell (p:=⟨w.heap.size,1,none⟩) HZ1.out];exact HE1.out
   have hrp:=HR.out.below (zB HB1.out hbp)
   have CS:=Hd (zPd l hl _ _ _ hrp (HU.out.below hbp) k hlt h.2)
   have HBP:=Hd hbp
   have HS:=Hd hs
   clear hbp hrp hs hcell
   by_cases ha:a=26
   ·subst ha
    rw [show ((26:Nat):Int)=26 from rfl] at d0 g0 g1 CS HBP
    by_cases hw:s=h.1
    ·subst hw
     by_cases ho:xP l h.2 k=true
     ·have HX:Hid (vD l h (l.length-(k+1)) (k+1) ((n:Int)+1)=yU l h):=Hd (by
       have:=HS.out;unfold vH at this;simpa [ho] using this)
      rw [ho] at CS
      go_wp2_with fail
      refine CS.out.mono ?_
      rintro e w2 ⟨rfl,rfl⟩
      go_wp2_with fail
      case roundEnd=>exact ⟨⟨k+1,n+1,by push_cast;rfl,by push_cast;rfl,by omega,by omega,by have:=HX.out;push_cast;exact this,HBP.out⟩,by simp only [intOf];omega⟩
     ·have ho:xP l h.2 k=false:=by simpa using ho
      have HX:Hid (yU l h=-1):=Hd (by
       have:=HS.out;unfold vH at this;simpa [ho] using this.symm)
      rw [ho] at CS
      go_wp2_with fail
      refine CS.out.mono ?_
      rintro e w2 ⟨rfl,rfl⟩
      go_wp2_with fail
      exact HN.out _ (zB HB1.out HBP.out) HX.out
    ·have HX:Hid (vD l h (l.length-(k+1)) (k+1) (n:Int)=yU l h):=Hd (by
      have:=HS.out;unfold vH at this;simpa [hw] using this)
     have g2:(s.toList == h.1.toList)=false:=by rw [beq_eq_false_iff_ne];exact yG hw
     go_wp2_with fail
     case roundEnd=>exact ⟨⟨k+1,n,by push_cast;rfl,rfl,by omega,by omega,HX.out,HBP.out⟩,by simp only [intOf];omega⟩
   ·have HX:Hid (vD l h (l.length-(k+1)) (k+1) (n:Int)=yU l h):=Hd (by
     have:=HS.out;unfold vH at this;simpa [ha] using this)
    have g2:((a:Int) == 26)=false:=by rw [beq_eq_false_iff_ne];omega
    go_wp2_with fail
    case roundEnd=>exact ⟨⟨k+1,n,by push_cast;rfl,rfl,by omega,by omega,HX.out,HBP.out⟩,by simp only [intOf];omega⟩
  ·have hkl:k=l.length:=by omega
   subst hkl
   have hz:=HPF.out
   rw [Nat.sub_self,vD] at hz
   have HX:=Hd (HQ.out wr (zB HB1.out HB.out) (by omega))
   rw [← hz] at HX
   go_wp2_with fail
   exact HX.out
end Go.Proofs.YtfalelkfhandfaaGreatDoor
namespace Go.Proofs.YtfalelkfhandfaaGreatDoor
set_option linter.all false

def dupB (r:RuleM) (k:Nat) (s:ByteArray):Bool:=(r.holes.take k).any fun g=>decide (g.1=s)
def seenM (hs:List Hl) (x:ByteArray):Option Int:=if hs.any (fun g=>decide (g.1=x))=true then some 1 else none
theorem zJh (hs:List Hl) (h:Hl):(fun x=>if x=h.1 then some 1 else seenM hs x)=seenM (hs++[h]):=by
 funext x
 unfold seenM
 rw [List.any_append]
 by_cases e:x=h.1
 ·subst e;simp
 ·rw [if_neg e]
  have:(List.any [h] fun g=>decide (g.1=x))=false:=by simp;exact fun e2=>e e2.symm
  rw [this,Bool.or_false]
theorem zDx {α:Type} {l:List α} {k:Nat} (hk:k<l.length):l.take (k+1)=l.take k++[l[k]]:=by
 rw [List.take_add_one,List.getElem?_eq_getElem hk];rfl
theorem zGj {r:RuleM} {k:Nat} (hk:k<r.holes.length):holeB r k=(!dupB r k (r.holes[k]).1&&(name (r.holes[k]).1&&(decide (1≤(r.holes[k]).2∧(r.holes[k]).2≤7)&&(decide (1≤yU r.fnd r.holes[k])&&decide (0≤yU r.by' r.holes[k]))))):=by
 unfold holeB dupB
 rw [List.getElem?_eq_getElem hk]
theorem kE {r:RuleM} (h:ruleTop r=false):ruleZ r=10:=by unfold ruleZ;rw [if_pos h]
theorem fT {r:RuleM} (h:ruleTop r=true) (c:16<r.holes.length∨2<sevN r.holes):ruleZ r=14:=by unfold ruleZ;rw [if_neg (by simp [h]),if_pos c]
theorem zGk {r:RuleM} (h:ruleTop r=true) (c1:r.holes.length≤16) (c2:sevN r.holes≤2) {k:Nat} (hk:k<r.holes.length) (hb:holeB r k=false):ruleZ r=11:=by
 unfold ruleZ
 rw [if_neg (by simp [h]),if_neg (by omega),if_neg (fun hh=>by have:=hh k hk;rw [hb] at this;cases this)]
theorem zLa {r:RuleM} (h:ruleTop r=true) (c1:r.holes.length≤16) (c2:sevN r.holes≤2) (hh:∀ i,i<r.holes.length→holeB r i=true):ruleZ r=0:=by
 unfold ruleZ
 rw [if_neg (by simp [h]),if_neg (by omega),if_pos hh]
theorem zDy {hs:List Hl} {k:Nat} (hk:k<hs.length):sevN (hs.take (k+1))=sevN (hs.take k)+(if isSev (hs[k]).2=true then 1 else 0):=by
 unfold sevN
 rw [zDx hk,List.filter_append,List.length_append]
 by_cases h:isSev (hs[k]).2=true
 ·simp [h]
 ·simp [h]
theorem zGl (hs:List Hl):sevN (hs.take hs.length)=sevN hs:=by rw [List.take_length]
theorem zLb (hs:List Hl):sevN hs≤hs.length:=List.length_filter_le _ _
end Go.Proofs.YtfalelkfhandfaaGreatDoor
namespace Go.Proofs.YtfalelkfhandfaaGreatDoor
set_option maxRecDepth 100000
set_option maxHeartbeats 32000000
set_option linter.all false
attribute [local irreducible] Calls
open Go.RowKit

theorem zSs (p:Prt):yL p≤10:=by
 unfold yL lvW
 by_cases h1:p.1=36∨p.1=35
 ·rw [if_pos h1];omega
 ·rw [if_neg h1]
  by_cases h2:p.1=37
  ·rw [if_pos h2]
   repeat' split
   all_goals omega
  ·rw [if_neg h2];omega
theorem zNe (p:Prt) (nth:Nat) (hn:nth<100000000) (hs:p.2.2.size≤1048576) (w:World) (hM:MaxC w) :
  Calls Tryz.prog 87 #[partA p,.int .i64 (nth:Int)] w fun e w'=>e=.returned (.int .i64 (xD p nth:Int))∧Below w.heap.size w w':=by
 have HQ:Hid (∀ x w',(xD p nth:Int)=x→Below w.heap.size w w'→(fun (e:Ending) w'=>e=.returned (.int .i64 (xD p nth:Int))∧Below w.heap.size w w') (.returned (.int .i64 x)) w'):=Hd fun x w' h hb=>⟨by rw [h],hb⟩
 generalize (fun (e:Ending) w'=>e=.returned (.int .i64 (xD p nth:Int))∧Below w.heap.size w w')=Q at *
 obtain ⟨k,n,s⟩:=p
 have HV:=Hd (fun W (hb:Below w.heap.size w W)=>zFb (k,n,s) hs W (hM.below hb))
 unfold partA at HV ⊢
 simp only [] at hs HQ HV ⊢
 have HX:=Hd ((Below.refl w.heap.size w).alloc (Nat.le_refl _) (.cells #[.int .u8 (k:Int),.int .i64 n,.string s] 38))
 have HPK:Hid (PK (w.alloc (.cells #[.int .u8 (k:Int),.int .i64 n,.string s] 38)) w.heap.size (k,n,s)):=Hd (PK.alloc_new w (k,n,s))
 by_cases h37:k=37
 ·subst h37
  rw [show ((37:Nat):Int)=(37:Int) from rfl] at HX HPK HV ⊢
  have hl:xD (37,n,s) nth=if nth=0 then yL (37,n,s) else if nth=1 then yL (37,n,s)+1 else 0:=by unfold xD;rw [if_pos rfl]
  have hlv:yL (37,n,s)≤10:=zSs _
  generalize yL (37,n,s)=lv at *
  by_cases h0:nth=0
  ·subst h0
   rw [if_pos rfl] at hl
   have HJ:=Hd hl
   clear hl
   clear hM
   go_enter Tryz.func87,Tryz.ntmps87
   go_upto_region 1 with (fail)
   generalize w.alloc (.cells #[.int .u8 (37:Int),.int .i64 n,.string s] 38)=W1 at *
   have p0:=HPK.out.c0;have p1:=HPK.out.c1;have p2:=HPK.out.c2
   simp only [] at p0 p1 p2
   go_wp2_with fail
   refine (HV.out W1 HX.out).mono ?_
   rintro e w2 ⟨rfl,hb⟩
   have HZ:=Hd (HQ.out _ w2 (by rw [HJ.out]) (zB HX.out hb))
   clear hb p0 p1 p2
   go_wp2_with fail
   exact HZ.out
  by_cases h1:nth=1
  ·subst h1
   rw [if_neg (by decide),if_pos rfl] at hl
   have HJ:=Hd hl
   clear hl
   clear hM
   go_enter Tryz.func87,Tryz.ntmps87
   go_upto_region 1 with (fail)
   generalize w.alloc (.cells #[.int .u8 (37:Int),.int .i64 n,.string s] 38)=W1 at *
   have p0:=HPK.out.c0;have p1:=HPK.out.c1;have p2:=HPK.out.c2
   simp only [] at p0 p1 p2
   go_wp2_with fail
   refine (HV.out W1 HX.out).mono ?_
   rintro e w2 ⟨rfl,hb⟩
   have HZ:=Hd (HQ.out _ w2 (by rw [HJ.out]) (zB HX.out hb))
   clear hb p0 p1 p2
   go_wp2_with fail
   exact HZ.out
  have HJ:=Hd (by rw [if_neg h0,if_neg h1] at hl;exact hl:xD (37,n,s) nth=0)
  have g0:((nth:Int) == 0)=false:=by rw [beq_eq_false_iff_ne];omega
  have g1:((nth:Int) == 1)=false:=by rw [beq_eq_false_iff_ne];omega
  clear hl h0 h1
  clear hM
  go_enter Tryz.func87,Tryz.ntmps87
  go_upto_region 1 with (fail)
  generalize w.alloc (.cells #[.int .u8 (37:Int),.int .i64 n,.string s] 38)=W1 at *
  have p0:=HPK.out.c0;have p1:=HPK.out.c1;have p2:=HPK.out.c2
  simp only [] at p0 p1 p2
  go_wp2_with fail
  have HZ:=Hd (HQ.out 0 W1 (by rw [HJ.out];rfl) HX.out)
  exact HZ.out
 have g37:((k:Int) == 37)=false:=by rw [beq_eq_false_iff_ne];omega
 by_cases h36:k=36
 ·subst h36
  clear g37 h37
  rw [show ((36:Nat):Int)=(36:Int) from rfl] at HX HPK ⊢
  have HJ:=Hd (by unfold xD;simp:xD (36,n,s) nth=6)
  clear hM
  go_enter Tryz.func87,Tryz.ntmps87
  go_upto_region 1 with (fail)
  generalize w.alloc (.cells #[.int .u8 (36:Int),.int .i64 n,.string s] 38)=W1 at *
  have p0:=HPK.out.c0;have p1:=HPK.out.c1;have p2:=HPK.out.c2
  simp only [] at p0 p1 p2
  go_wp2_with fail
  have HZ:=Hd (HQ.out 6 W1 (by rw [HJ.out];rfl) HX.out)
  exact HZ.out
 by_cases h35:k=35
 ·subst h35
  clear g37 h37
  rw [show ((35:Nat):Int)=(35:Int) from rfl] at HX HPK ⊢
  have HJ:=Hd (by unfold xD;simp:xD (35,n,s) nth=6)
  clear hM
  go_enter Tryz.func87,Tryz.ntmps87
  go_upto_region 1 with (fail)
  generalize w.alloc (.cells #[.int .u8 (35:Int),.int .i64 n,.string s] 38)=W1 at *
  have p0:=HPK.out.c0;have p1:=HPK.out.c1;have p2:=HPK.out.c2
  simp only [] at p0 p1 p2
  go_wp2_with fail
  have HZ:=Hd (HQ.out 6 W1 (by rw [HJ.out];rfl) HX.out)
  exact HZ.out
 have g36:((k:Int) == 36)=false:=by rw [beq_eq_false_iff_ne];omega
 have g35:((k:Int) == 35)=false:=by rw [beq_eq_false_iff_ne];omega
 by_cases hkk:29≤k∧k≤34
 ·have hk6:k=29∨k=30∨k=31∨k=32∨k=33∨k=34:=by omega
  clear g35 g36 g37
  by_cases ht:nth=0
  ·subst ht
   have hj:xD (k,n,s) 0=7:=by unfold xD;rw [if_neg h37,if_neg (by simp only [];omega),if_pos hkk,if_pos rfl]
   have HJ:=Hd hj
   clear hj h35 h36 h37 hkk
   rcases hk6 with rfl | rfl | rfl | rfl | rfl | rfl
   all_goals
    clear hM
    go_enter Tryz.func87,Tryz.ntmps87
    go_upto_region 1 with (fail)
    have p0:=HPK.out.c0;have p1:=HPK.out.c1;have p2:=HPK.out.c2
    simp only [] at p0 p1 p2
    go_wp2_with fail
    have HZ:=Hd (HQ.out 7 _ (by rw [HJ.out];rfl) HX.out)
    exact HZ.out
  ·have hj:xD (k,n,s) nth=0:=by unfold xD;rw [if_neg h37,if_neg (by simp only [];omega),if_pos hkk,if_neg ht]
   have g0:((nth:Int) == 0)=false:=by rw [beq_eq_false_iff_ne];omega
   clear ht
   have HJ:=Hd hj
   clear hj h35 h36 h37 hkk
   rcases hk6 with rfl | rfl | rfl | rfl | rfl | rfl
   all_goals
    clear hM
    go_enter Tryz.func87,Tryz.ntmps87
    go_upto_region 1 with (fail)
    have p0:=HPK.out.c0;have p1:=HPK.out.c1;have p2:=HPK.out.c2
    simp only [] at p0 p1 p2
    go_wp2_with fail
    have HZ:=Hd (HQ.out 0 _ (by rw [HJ.out];rfl) HX.out)
    exact HZ.out
 have g29:((k:Int) == 29)=false:=by rw [beq_eq_false_iff_ne];omega
 have g30:((k:Int) == 30)=false:=by rw [beq_eq_false_iff_ne];omega
 have g31:((k:Int) == 31)=false:=by rw [beq_eq_false_iff_ne];omega
 have g32:((k:Int) == 32)=false:=by rw [beq_eq_false_iff_ne];omega
 have g33:((k:Int) == 33)=false:=by rw [beq_eq_false_iff_ne];omega
 have g34:((k:Int) == 34)=false:=by rw [beq_eq_false_iff_ne];omega
 by_cases h61:k=61
 ·subst h61
  rw [show ((61:Nat):Int)=(61:Int) from rfl] at HX HPK ⊢
  clear g35 g36 g37 h35 h36 h37 hkk
  clear g29 g30 g31 g32 g33 g34
  by_cases ht:nth=2
  ·subst ht
   have HJ:=Hd (by unfold xD;simp:xD (61,n,s) 2=7)
   clear hM
   go_enter Tryz.func87,Tryz.ntmps87
   go_upto_region 1 with (fail)
   generalize w.alloc (.cells #[.int .u8 (61:Int),.int .i64 n,.string s] 38)=W1 at *
   have p0:=HPK.out.c0;have p1:=HPK.out.c1;have p2:=HPK.out.c2
   simp only [] at p0 p1 p2
   go_wp2_with fail
   have HZ:=Hd (HQ.out 7 W1 (by rw [HJ.out];rfl) HX.out)
   exact HZ.out
  ·have g0:((nth:Int) == 2)=false:=by rw [beq_eq_false_iff_ne];omega
   have hj:xD (61,n,s) nth=0:=by unfold xD;simp [ht]
   clear ht
   have HJ:=Hd (by exact hj:xD (61,n,s) nth=0)
   clear hM
   go_enter Tryz.func87,Tryz.ntmps87
   go_upto_region 1 with (fail)
   generalize w.alloc (.cells #[.int .u8 (61:Int),.int .i64 n,.string s] 38)=W1 at *
   have p0:=HPK.out.c0;have p1:=HPK.out.c1;have p2:=HPK.out.c2
   simp only [] at p0 p1 p2
   go_wp2_with fail
   have HZ:=Hd (HQ.out 0 W1 (by rw [HJ.out];rfl) HX.out)
   exact HZ.out
 have g61:((k:Int) == 61)=false:=by rw [beq_eq_false_iff_ne];omega
 have hj:xD (k,n,s) nth=0:=by unfold xD;rw [if_neg h37,if_neg (by simp only [];omega),if_neg (by simp only [];omega),if_neg h61]
 clear h37 h36 h35 hkk h61
 have HJ:=Hd (by exact hj:xD (k,n,s) nth=0)
 clear hM
 go_enter Tryz.func87,Tryz.ntmps87
 go_upto_region 1 with (fail)
 generalize w.alloc (.cells #[.int .u8 (k:Int),.int .i64 n,.string s] 38)=W1 at *
 have p0:=HPK.out.c0;have p1:=HPK.out.c1;have p2:=HPK.out.c2
 simp only [] at p0 p1 p2
 go_wp2_with fail
 have HZ:=Hd (HQ.out 0 W1 (by rw [HJ.out];rfl) HX.out)
 exact HZ.out
end Go.Proofs.YtfalelkfhandfaaGreatDoor
