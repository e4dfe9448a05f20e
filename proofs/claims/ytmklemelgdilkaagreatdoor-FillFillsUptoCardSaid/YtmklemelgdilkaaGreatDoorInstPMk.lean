/- Layer 17 in plain Lean: what Inst makes: how much, step by step. -/
import Derived.Test.YtmklemelgdilkaaGreatDoorFillPMk
import Derived.Test.YtmklemelgdilkaaGreatDoorCheckBMk
namespace Go.Proofs.YtmklemelgdilkaaGreatDoor
set_option linter.all false

def bOf (bs:List Bnd) (h:Nat):Nat×Nat:=match bs[h]? with
 | some x=>(x.2.1.toNat,x.2.2.toNat)
 | none=>(0,0)
def BindsIn (bs:List Bnd) (l:List Prt):Prop:=∀ x∈bs,0≤x.2.1∧x.2.1≤x.2.2∧x.2.2≤l.length
theorem bOf_at {bs:List Bnd} {h:Nat} (hh:h<bs.length):bOf bs h=((bs[h]).2.1.toNat,(bs[h]).2.2.toNat):=by unfold bOf;rw [List.getElem?_eq_getElem hh]
theorem bOf_in {bs:List Bnd} {l:List Prt} (hb:BindsIn bs l) (h:Nat):(bOf bs h).1≤(bOf bs h).2∧(bOf bs h).2≤l.length:=by
 by_cases hh:h<bs.length
 ·have:=hb _ (List.getElem_mem hh)
  rw [bOf_at hh]
  simp only []
  omega
 ·unfold bOf
  rw [List.getElem?_eq_none (by omega)]
  simp
section
variable {t l:List Prt} {hs:List Hl} {b:Nat→Nat×Nat}
theorem sizeS_le {m:Nat} (hb:∀ h,(b h).2-(b h).1≤m):∀ n p,sizeS t hs b n p≤n*(m+1)
 | 0,p=>by rw [sizeS];omega
 | n+1,p=>by
  rw [sizeS,Nat.add_mul]
  split
  ·cases holeOf t hs p with
   | some h =>
    simp only []
    have h1:=hb h
    have h2:=sizeS_le hb n (if kindAt t p=50 then p+2 else p+1)
    omega
   | none =>
    simp only []
    have h2:=sizeS_le hb n (p+1)
    omega
  ·omega
theorem mPart_len (H:HolesOK t hs) {m:Nat} (hb:∀ h,(b h).2-(b h).1≤m) {n p:Nat} (hp:p<t.length) (hn:2*(endB t p-p)≤n):(mPart t l hs b n p).length≤t.length*(m+1):=by
 have h1:=(m_size t l hs b H n).1 p hp hn t.length (by omega)
 have h2:=sizeS_le (t:=t) (hs:=hs) hb t.length p
 omega
theorem mp_hole {n p h:Nat} (ho:holeOf t hs p=some h):mPart t l hs b (n+1) p=srcL l (b h).1 (b h).2:=by rw [mPart,ho]
theorem mp_none {n p:Nat} (ho:holeOf t hs p=none) (hp:p<t.length):mPart t l hs b (n+1) p=(((t[p]).1,(cntP ((mKids t l hs b n (p+1) (endB t p)).map (·.1)):Int),(t[p]).2.2),-1)::mKids t l hs b n (p+1) (endB t p):=by
 rw [mPart,ho,List.getElem?_eq_getElem hp]
theorem mk_end {n p:Nat}:mKids t l hs b (n+1) p p=[]:=by rw [mKids,if_pos rfl]
theorem mk_next {n p pend:Nat} (h:p≠pend):mKids t l hs b (n+1) p pend=mPart t l hs b n p++mKids t l hs b n (endB t p) pend:=by rw [mKids,if_neg h]
theorem mPart_rows (hb:∀ h,(b h).1≤(b h).2∧(b h).2≤l.length) (hv:∀ h,∃ ts,rowsB (piece l (b h).1 (b h).2)=some ts) (n p:Nat):∃ ts,rowsB ((mPart t l hs b n p).map (·.1))=some ts:=by
 rw [(m_inst t l hs b hb n).1 p]
 obtain ⟨ts,h,_⟩:=(i_rows t hs (fun h=>piece l (b h).1 (b h).2) hv n).1 p
 exact ⟨ts,h⟩
end
def intsV (xs:List Int):List Go.Value:=xs.map (Go.Value.int .i64)
end Go.Proofs.YtmklemelgdilkaaGreatDoor
namespace Go.Proofs.YtmklemelgdilkaaGreatDoor
set_option linter.all false

theorem treesZ_of {l:List Prt} {ts:List Nat} (h:rowsB l=some ts):treesZ l=(ts.length:Int):=by unfold treesZ;rw [h]
theorem treesZ_rows {l:List Prt} (h:0≤treesZ l):∃ ts,rowsB l=some ts∧treesZ l=(ts.length:Int):=by
 cases e:rowsB l with
 | none=>unfold treesZ at h;rw [e] at h;simp at h
 | some ts=>exact ⟨ts,rfl,treesZ_of e⟩
section
variable (t:List Prt) (hs:List Hl) (b:Nat→Nat×Nat)
theorem sizeS_end:∀ n p,t.length≤p→sizeS t hs b n p=0
 | 0,p,h=>by rw [sizeS]
 | n+1,p,h=>by rw [sizeS,if_neg (by omega)]
end
section
variable {t l:List Prt} {hs:List Hl} {b:Nat→Nat×Nat}
theorem pt_small (hl:SmallL l) (i:Nat):(ptAt l i).1<256∧(ptAt l i).2.2.size≤1048576:=by
 unfold ptAt
 by_cases h:i<l.length
 ·have:=hl.2 _ (List.getElem_mem h)
  simpa [List.getD_eq_getElem?_getD,h] using this
 ·rw [List.getD_eq_getElem?_getD,List.getElem?_eq_none (by omega)]
  decide
theorem m_small (ht:SmallL t) (hl:SmallL l):∀ n,(∀ p,∀ x∈mPart t l hs b n p,x.1.1<256∧x.1.2.2.size≤1048576)∧(∀ p pend,∀ x∈mKids t l hs b n p pend,x.1.1<256∧x.1.2.2.size≤1048576)
 | 0=>⟨(fun p x hx=>by rw [mPart] at hx;cases hx),(fun p pend x hx=>by rw [mKids] at hx;cases hx)⟩
 | n+1=>by
  obtain ⟨h1,h2⟩:=m_small ht hl n
  constructor
  ·intro p x hx
   rw [mPart] at hx
   cases ho:holeOf t hs p with
   | some h =>
    rw [ho] at hx
    simp only [] at hx
    unfold srcL at hx
    obtain ⟨k,_,rfl⟩:=List.mem_map.1 hx
    exact pt_small hl k
   | none =>
    rw [ho] at hx
    simp only [] at hx
    cases hp:t[p]? with
    | none=>rw [hp] at hx;cases hx
    | some a =>
     rw [hp] at hx
     simp only [] at hx
     rcases List.mem_cons.1 hx with rfl | hx
     ·obtain ⟨hp',rfl⟩:=List.getElem?_eq_some_iff.1 hp
      have:=ht.2 _ (List.getElem_mem hp')
      exact this
     ·exact h2 _ _ x hx
  ·intro p pend x hx
   rw [mKids] at hx
   split at hx
   ·cases hx
   ·rcases List.mem_append.1 hx with hx | hx
    ·exact h1 _ x hx
    ·exact h2 _ _ x hx
end
end Go.Proofs.YtmklemelgdilkaaGreatDoor
namespace Go.Proofs.YtmklemelgdilkaaGreatDoor
set_option linter.all false

def okB (l:List Prt) (h:Hl) (b:Bnd):Bool :=
 decide (b.1=h.1)&&(decide (0≤b.2.1∧b.2.1≤b.2.2∧b.2.2≤l.length)&&(decide (0≤treesZ (piece l b.2.1.toNat b.2.2.toNat))&&(isSev h.2 || (decide (treesZ (piece l b.2.1.toNat b.2.2.toNat)=1)&&mayB h.2 (kindAt l b.2.1.toNat)))))
def rightB (r:RuleM) (l:List Prt) (bs:List Bnd):Bool:=decide (bs.length=r.holes.length)&&(r.holes.zip bs).all fun x=>okB l x.1 x.2
theorem rightB_iff {r:RuleM} {l:List Prt} {bs:List Bnd}:rightB r l bs=true↔bs.length=r.holes.length∧∀ h (hh:h<r.holes.length) (hb:h<bs.length),okB l r.holes[h] bs[h]=true:=by
 unfold rightB
 rw [Bool.and_eq_true,decide_eq_true_eq,List.all_eq_true]
 constructor
 ·rintro ⟨h1,h2⟩
  refine ⟨h1,fun h hh hb=>?_⟩
  exact h2 (r.holes[h],bs[h]) (List.mem_iff_getElem.2 ⟨h,by rw [List.length_zip];omega,by rw [List.getElem_zip]⟩)
 ·rintro ⟨h1,h2⟩
  refine ⟨h1,fun x hx=>?_⟩
  obtain ⟨h,hl,rfl⟩:=List.mem_iff_getElem.1 hx
  rw [List.length_zip] at hl
  rw [List.getElem_zip]
  exact h2 h (by omega) (by omega)
theorem okB_inv {l:List Prt} {h:Hl} {b:Bnd} (hb:okB l h b=true):b.1=h.1∧(0≤b.2.1∧b.2.1≤b.2.2∧b.2.2≤l.length)∧0≤treesZ (piece l b.2.1.toNat b.2.2.toNat)∧(isSev h.2=false→treesZ (piece l b.2.1.toNat b.2.2.toNat)=1∧mayB h.2 (kindAt l b.2.1.toNat)=true):=by
 unfold okB at hb
 simp only [Bool.and_eq_true,decide_eq_true_eq,Bool.or_eq_true] at hb
 refine ⟨hb.1,hb.2.1,hb.2.2.1,fun hs=>?_⟩
 rcases hb.2.2.2 with h1 | h1
 ·rw [hs] at h1;cases h1
 ·exact h1
theorem right_in {r:RuleM} {l:List Prt} {bs:List Bnd} (h:rightB r l bs=true):BindsIn bs l:=by
 obtain ⟨h1,h2⟩:=rightB_iff.1 h
 intro x hx
 obtain ⟨k,hk,rfl⟩:=List.mem_iff_getElem.1 hx
 exact (okB_inv (h2 k (by omega) hk)).2.1
def madeP (r:RuleM) (l:List Prt) (bs:List Bnd):List PN:=mPart r.by' l r.holes (bOf bs) (fuelZ r.by') 0
def outP (r:RuleM) (l:List Prt) (bs:List Bnd):List PN:=if r.goal=3 then (madeP r l bs).drop 1 else madeP r l bs
def treesP (r:RuleM) (l:List Prt) (bs:List Bnd):Int:=treesZ ((outP r l bs).map (·.1))
def fillZ (r:RuleM) (l:List Prt) (bs:List Bnd):List PN×Int :=
 if ruleZ r≠0 then ([],ruleZ r) else if wellB l=false then ([],8) else if rightB r l bs=false then ([],1) else if 131072<(outP r l bs).length then ([],2) else (outP r l bs,0)
abbrev Pk:=Int×Int×List Bnd
def stepErr (rules:List RuleM) (l:List Prt):List Pk→Int→Int→Int
 | [],_,size=>if 131072<size then 2 else 0
 | (n,x,bs)::P,free,size =>
  if n<0∨rules.length≤n∨x<free∨l.length≤x then 1 else match rules[n.toNat]? with
  | none=>1
  | some r=>if rightB r l bs=false then 1 else if 131072<(outP r l bs).length then 2
   else if treesP r l bs≠1∧(x=0∨kindU l (upN l x.toNat)≠13) then 12
   else stepErr rules l P (endB l x.toNat) (size+(outP r l bs).length-((endB l x.toNat:Int)-x))
def mkOf (rules:List RuleM) (l:List Prt) (p:Pk):Mk:=match rules[p.1.toNat]? with
 | some r=>(p.2.1.toNat,outP r l p.2.2,treesP r l p.2.2-1)
 | none=>(p.2.1.toNat,[],0)
def mksOf (rules:List RuleM) (l:List Prt) (P:List Pk):List Mk:=P.map (mkOf rules l)
def stepOut (rules:List RuleM) (l:List Prt) (P:List Pk):List PN:=outGo l (mksOf rules l P) (l.length+1) 0 (mksOf rules l P)
def withZ (o:List PN):List PN×Int:=if wellB (o.map (·.1))=true then (guardZ (o.map (·.1)) (o.map (·.2)),0) else ([],8)
def stepZ (rules:List RuleM) (l:List Prt) (P:List Pk):List PN×Int :=
 if findErr rules l≠0 then ([],findErr rules l) else if stepErr rules l P 0 l.length≠0 then ([],stepErr rules l P 0 l.length) else withZ (stepOut rules l P)
theorem stepErr_cons {rules:List RuleM} {l:List Prt} {n x:Int} {bs:List Bnd} {P:List Pk} {free size:Int} (h:stepErr rules l ((n,x,bs)::P) free size=0) :
  0≤n∧free≤x∧x<l.length∧∃ r,rules[n.toNat]?=some r∧rightB r l bs=true∧(outP r l bs).length≤131072∧¬ (treesP r l bs≠1∧(x=0∨kindU l (upN l x.toNat)≠13))∧stepErr rules l P (endB l x.toNat) (size+(outP r l bs).length-((endB l x.toNat:Int)-x))=0:=by
 rw [stepErr] at h
 split at h
 ·cases h
 ·rename_i h1
  cases hr:rules[n.toNat]? with
  | none=>rw [hr] at h;cases h
  | some r =>
   rw [hr] at h
   simp only [] at h
   split at h
   ·cases h
   ·rename_i h2
    split at h
    ·cases h
    ·rename_i h3
     split at h
     ·cases h
     ·rename_i h4
      exact ⟨by omega,by omega,by omega,r,rfl,by simpa using h2,by omega,h4,h⟩
theorem mkOf_of {rules:List RuleM} {l:List Prt} {n x:Int} {bs:List Bnd} {r:RuleM} (h:rules[n.toNat]?=some r):mkOf rules l (n,x,bs)=(x.toNat,outP r l bs,treesP r l bs-1):=by
 unfold mkOf
 simp only []
 rw [h]
theorem step_free {rules:List RuleM} {l:List Prt}:∀ {P:List Pk} {free:Nat} {size:Int},stepErr rules l P free size=0→Free l free (mksOf rules l P)
 | [],_,_,_=>trivial
 | (n,x,bs)::P,free,size,h=>by
  obtain ⟨h1,h2,h3,r,hr,_,_,_,h4⟩:=stepErr_cons h
  unfold mksOf
  rw [List.map_cons,mkOf_of hr]
  exact ⟨by omega,by omega,step_free h4⟩
section
variable {t l:List Prt} {hs:List Hl} {b:Nat→Nat×Nat}
end
section
variable (l:List Prt) (all:List Mk)
theorem outGo_mem {us:List Nat} (hl:rowsB l=some us):∀ (n i:Nat) (P:List Mk),∀ y∈outGo l all n i P,(∃ j,j<l.length∧y=stayN l all j)∨∃ p∈P,y∈p.2.1
 | 0,i,P,y,h=>by rw [outGo] at h;cases h
 | n+1,i,[],y,h=>by
  rw [outGo] at h
  split at h
  ·rename_i hi
   rcases List.mem_cons.1 h with rfl | h
   ·exact Or.inl ⟨i,hi,rfl⟩
   ·rcases outGo_mem hl n (i+1) [] y h with g | ⟨p,hp,_⟩
    ·exact Or.inl g
    ·cases hp
  ·cases h
 | n+1,i,(x,m,d)::R,y,h=>by
  rw [outGo] at h
  split at h
  ·rename_i hi
   split at h
   ·rcases List.mem_append.1 h with h | h
    ·exact Or.inr ⟨(x,m,d),by simp,h⟩
    ·rcases outGo_mem hl n (endB l i) R y h with g | ⟨p,hp,g⟩
     ·exact Or.inl g
     ·exact Or.inr ⟨p,by simp [hp],g⟩
   ·rcases List.mem_cons.1 h with rfl | h
    ·exact Or.inl ⟨i,hi,rfl⟩
    ·exact outGo_mem hl n (i+1) _ y h
  ·cases h
end
end Go.Proofs.YtmklemelgdilkaaGreatDoor
namespace Go.Proofs.YtmklemelgdilkaaGreatDoor
set_option linter.all false
attribute [local irreducible] Calls
open Go.RowKit

def upsL (l:List Prt):List Int:=(List.range l.length).map (upN l)
theorem upsL_length (l:List Prt):(upsL l).length=l.length:=by simp [upsL]
theorem upsL_get {l:List Prt} {j:Nat} (hj:j<(upsL l).length):(upsL l)[j]=upN l j:=by simp [upsL]
theorem kind_is (l:List Prt) (u:Int) (n:Nat) (hn:n≠69):(kindI l u == some n)=(kindU l u == (n:Int)):=by
 unfold kindU
 cases kindI l u with
 | none=>simp;omega
 | some k=>rw [Bool.eq_iff_iff];simp;omega
set_option maxRecDepth 100000 in
set_option maxHeartbeats 8000000 in
theorem rule_stands (l:List Prt) (hl:l.length≤1000000000) (v vup:Value) (w:World) (hr:PartRow w v l) (hup:RowInts w vup .i64 (upsL l)) (i:Nat) (hi:i<l.length) (k:Nat) :
  Calls Tryz.prog 66 #[v,vup,.int .i64 (i:Int),.int .u8 (k:Int)] w fun e w'=>e=.returned (.bool (placeOK l k i))∧w=w':=by
 have HQ:RowKit.Hid (∀ x,placeOK l k i=x→(fun (e:Ending) w'=>e=.returned (.bool (placeOK l k i))∧w=w') (.returned (.bool x)) w):=Hd fun x h=>⟨by rw [h],rfl⟩
 generalize (fun (e:Ending) w'=>e=.returned (.bool (placeOK l k i))∧w=w')=Q at *
 have hge:=upN_ge l i
 have hlt:=upN_less l i
 have CK:=Hd (fun u h1 h2=>rule_kind l hl v u h1 h2 w hr)
 obtain ⟨ua,ucap,hv,hc,hrow⟩:=hup.open'
 obtain ⟨b,off,rfl,_,hcell⟩:=hrow (by rw [upsL_length];omega)
 subst hv
 have c0:w.cell? ⟨b,off+i,none⟩=some (.int .i64 (upN l i)):=by rw [hcell i (by rw [upsL_length];exact hi),upsL_get]
 rw [upsL_length] at hc ⊢
 have HC:=Hd hcell
 have hi0:(0:Int)≤(i:Int):=by omega
 have hil:(i:Int)<l.length:=by omega
 clear hrow hup hr hcell
 have HP:RowKit.Hid (placeOK l k i=if k=5 then kindU l (upN l i) == 50 else if k=7 then (kindU l (upN l i) == 50&&kindU l (upN l (upN l i).toNat) == 13) else if k=6 then (kindU l (upN l i) == 11 || kindU l (upN l i) == 12) else true):=Hd (by
  unfold placeOK
  rw [kind_is _ _ 50 (by omega),kind_is _ _ 13 (by omega),kind_is _ _ 11 (by omega),kind_is _ _ 12 (by omega)];rfl)
 have C1:=Hd (CK.out (upN l i) hge (by omega))
 by_cases k5:k=5
 ·subst k5
  have HX:=Hd (HQ.out _ HP.out)
  rw [if_pos rfl] at HX
  generalize upN l i=u at *
  generalize kindU l u=x at *
  go_enter Tryz.func66,Tryz.ntmps66
  go_wp2_with fail
  refine C1.out.mono ?_
  rintro e w2 ⟨rfl,rfl⟩
  go_wp2_with fail
  exact HX.out
 have hn5:((k:Int) == 5)=false:=by rw [beq_eq_false_iff_ne];omega
 have hm5:(k == 5)=false:=by rw [beq_eq_false_iff_ne];exact k5
 by_cases k7:k=7
 ·subst k7
  have HX:=Hd (HQ.out _ HP.out)
  rw [if_neg (by omega),if_pos rfl] at HX
  by_cases hx:kindU l (upN l i)=50
  ·have hu0:0≤upN l i:=by
    by_cases c:upN l i<0
    ·unfold kindU kindI at hx
     rw [if_pos c] at hx
     cases hx
    ·omega
   obtain ⟨j,hj⟩:∃ j:Nat,upN l i=(j:Int):=⟨(upN l i).toNat,by omega⟩
   have hjl:j<l.length:=by omega
   have c1:w.cell? ⟨b,off+j,none⟩=some (.int .i64 (upN l j)):=by rw [HC.out j (by rw [upsL_length];exact hjl),upsL_get]
   have C2:=Hd (CK.out (upN l j) (upN_ge l j) (by have:=upN_less l j;omega))
   rw [hx,hj,Int.toNat_natCast] at HX
   rw [hx] at C1
   rw [hj] at C1 c0
   have hj0:(0:Int)≤(j:Int):=by omega
   have hjli:(j:Int)<l.length:=by omega
   clear hx hj hge hlt hu0 HP HQ
   generalize upN l j=u at *
   generalize kindU l u=y at *
   go_enter Tryz.func66,Tryz.ntmps66
   go_wp2_with fail
   refine C1.out.mono ?_
   rintro e w2 ⟨rfl,rfl⟩
   go_wp2_with fail
   refine C2.out.mono ?_
   rintro e w2 ⟨rfl,rfl⟩
   go_wp2_with fail
   exact HX.out
  ·have hxb:(kindU l (upN l i) == 50)=false:=by rw [beq_eq_false_iff_ne];exact hx
   rw [hxb,Bool.false_and] at HX
   clear hx HP HQ
   generalize upN l i=u at *
   generalize kindU l u=x at *
   go_enter Tryz.func66,Tryz.ntmps66
   go_wp2_with fail
   refine C1.out.mono ?_
   rintro e w2 ⟨rfl,rfl⟩
   go_wp2_with fail
   exact HX.out
 have hn7:((k:Int) == 7)=false:=by rw [beq_eq_false_iff_ne];omega
 have hm7:(k == 7)=false:=by rw [beq_eq_false_iff_ne];exact k7
 by_cases k6:k=6
 ·subst k6
  have HX:=Hd (HQ.out _ HP.out)
  rw [if_neg (by omega),if_neg (by omega),if_pos rfl] at HX
  clear HP HQ
  generalize upN l i=u at *
  generalize kindU l u=x at *
  cases hx:x == 11 with
  | true =>
   rw [hx,Bool.true_or] at HX
   go_enter Tryz.func66,Tryz.ntmps66
   go_wp2_with fail
   refine C1.out.mono ?_
   rintro e w2 ⟨rfl,rfl⟩
   go_wp2_with fail
   exact HX.out
  | false =>
   rw [hx,Bool.false_or] at HX
   go_enter Tryz.func66,Tryz.ntmps66
   go_wp2_with fail
   refine C1.out.mono ?_
   rintro e w2 ⟨rfl,rfl⟩
   go_wp2_with fail
   refine C1.out.mono ?_
   rintro e w2 ⟨rfl,rfl⟩
   go_wp2_with fail
   exact HX.out
 ·have hn6:((k:Int) == 6)=false:=by rw [beq_eq_false_iff_ne];omega
  have HX:=Hd (HQ.out _ HP.out)
  rw [if_neg k5,if_neg k7,if_neg k6] at HX
  clear HP HQ
  go_enter Tryz.func66,Tryz.ntmps66
  go_wp2_with fail
  exact HX.out
end Go.Proofs.YtmklemelgdilkaaGreatDoor
namespace Go.Proofs.YtmklemelgdilkaaGreatDoor
set_option linter.all false
attribute [local irreducible] Calls
open Go.RowKit

theorem pl_bytes_ne {x y:ByteArray} (h:x≠y):x.toList≠y.toList:=fun e=>h (by
 rw [ByteArray.toList_eq,ByteArray.toList_eq] at e
 exact ByteArray.ext (Array.ext' e))
def UpsC (l:List Prt):Prop:=∀ (v:Value) (w:World),PartRow w v l→Calls Tryz.prog 65 #[v] w fun e w'=>∃ v',e=.returned v'∧Below w.heap.size w w'∧RowInts w' v' .i64 (upsL l)
@[irreducible] def placedPost (z:Int) (w0:World) (e:Ending) (w':World):Prop :=
 Below w0.heap.size w0 w'∧e=if 0≤z then .returned (.tuple #[.int .i64 z,.bool true]) else .returned (.tuple #[.int .i64 0,.bool false])
def plRel (l:List Prt) (h:Hl) (w0:World) (nv iv:Value) (wr:World):Prop :=
 ∃ k n:Nat,iv=.int .i64 (k:Int)∧nv=.int .i64 (n:Int)∧k≤l.length∧n≤k∧placesF l h (l.length-k) k (n:Int)=placesZ l h∧Below w0.heap.size w0 wr
set_option maxRecDepth 100000 in
set_option maxHeartbeats 8000000 in
theorem rule_placed (l:List Prt) (hl:l.length≤1000000000) (hf:∀ p∈l,p.1<256) (CU:UpsC l) (v:Value) (h:Hl) (w:World) (hr:PartRow w v l) :
  Calls Tryz.prog 50 #[v,.agg #[.string h.1,.int .u8 (h.2:Int)]] w (placedPost (placesZ l h) w):=by
 have HQ:RowKit.Hid (∀ w',Below w.heap.size w w'→0≤placesZ l h→placedPost (placesZ l h) w (.returned (.tuple #[.int .i64 (placesZ l h),.bool true])) w'):=Hd fun w' hb hz=>by
  unfold placedPost;rw [if_pos hz];exact ⟨hb,rfl⟩
 have HN:RowKit.Hid (∀ w',Below w.heap.size w w'→placesZ l h=-1→placedPost (placesZ l h) w (.returned (.tuple #[.int .i64 0,.bool false])) w'):=Hd fun w' hb hz=>by
  unfold placedPost;rw [if_neg (by omega)];exact ⟨hb,rfl⟩
 generalize placedPost (placesZ l h) w=Q at *
 have hbx:Below w.heap.size w (w.alloc (.cells #[.string h.1,.int .u8 (h.2:Int)] 43)):=(Below.refl _ _).alloc (Nat.le_refl _) _
 have HBX:=Hd hbx
 have CU:=Hd (CU v _ (hr.below hbx))
 have e0:(w.alloc (.cells #[.string h.1,.int .u8 (h.2:Int)] 43)).cell? ⟨w.heap.size,0,none⟩=some (.string h.1):=World.cell?_alloc_at _ _ _ _ rfl
 have e1:(w.alloc (.cells #[.string h.1,.int .u8 (h.2:Int)] 43)).cell? ⟨w.heap.size,1,none⟩=some (.int .u8 (h.2:Int)):=World.cell?_alloc_at _ _ _ _ rfl
 have hz0:w.heap.size<(w.alloc (.cells #[.string h.1,.int .u8 (h.2:Int)] 43)).heap.size:=by simp
 have HR:=Hd hr
 obtain ⟨va,vcap,rfl,hvc⟩:=hr.slice
 clear hr hbx
 go_enter Tryz.func50,Tryz.ntmps50
 go_wp2_with fail
 refine CU.out.mono ?_
 rintro e w1 ⟨vu,rfl,hb1,hup⟩
 have HB1:=Hd (bthen HBX.out hb1)
 have HU:=Hd hup
 have HE0:=Hd (show w1.cell? ⟨w.heap.size,0,none⟩=some (.string h.1) by rw [hb1.cell (p:=⟨w.heap.size,0,none⟩) hz0];exact e0)
 have HE1:=Hd (show w1.cell? ⟨w.heap.size,1,none⟩=some (.int .u8 (h.2:Int)) by rw [hb1.cell (p:=⟨w.heap.size,1,none⟩) hz0];exact e1)
 have HZ1:=Hd (show w.heap.size<w1.heap.size from Nat.lt_of_lt_of_le hz0 hb1.size)
 obtain ⟨ua,ucap,hvu,_,_⟩:=hup.open'
 subst hvu
 clear hb1 hup e0 e1 hz0 CU HBX
 go_wp2_with fail
 go_loopw [6,14] (fun nv iv wr=>plRel l h w1 nv iv wr) (fun _ iv _=>l.length-(intOf iv).toNat)
 case atStart=>exact ⟨0,0,rfl,rfl,Nat.zero_le _,Nat.le_refl _,rfl,Below.refl _ _⟩
 case round =>
  obtain ⟨k,n,rfl,rfl,hk,hnk,hpf,hb⟩:=hrel
  have HB:=Hd hb
  have HPF:=Hd hpf
  clear hb hpf
  by_cases hlt:k<l.length
  ·obtain ⟨b,off,rfl,_,_,hbl,hcell⟩:=HR.out.at (bthen HB1.out HB.out) (show 0<l.length by omega)
   obtain ⟨d0,d1,d2⟩:=hcell k hlt
   have hs:=HPF.out
   rw [show l.length-k=(l.length-(k+1))+1 by omega,placesF,List.getElem?_eq_getElem hlt] at hs
   generalize hp:l[k]=p at *
   obtain ⟨a,c,s⟩:=p
   simp only [] at d0 d1 d2 hs
   have hbp:Below w1.heap.size w1 (wr.alloc (.cells #[.int .u8 (a:Int),.int .i64 c,.string s] 45)):=HB.out.alloc HB.out.size _
   have g0:(wr.alloc (.cells #[.int .u8 (a:Int),.int .i64 c,.string s] 45)).cell? ⟨w.heap.size,0,none⟩=some (.string h.1):=by
    rw [hbp.cell (p:=⟨w.heap.size,0,none⟩) HZ1.out];exact HE0.out
   have g1:(wr.alloc (.cells #[.int .u8 (a:Int),.int .i64 c,.string s] 45)).cell? ⟨w.heap.size,1,none⟩=some (.int .u8 (h.2:Int)):=by
    rw [hbp.cell (p:=⟨w.heap.size,1,none⟩) HZ1.out];exact HE1.out
   have hrp:=HR.out.below (bthen HB1.out hbp)
   have CS:=Hd (rule_stands l hl _ _ _ hrp (HU.out.below hbp) k hlt h.2)
   have HBP:=Hd hbp
   have HS:=Hd hs
   clear hbp hrp hs hcell
   by_cases ha:a=26
   ·subst ha
    rw [show ((26:Nat):Int)=26 from rfl] at d0 g0 g1 CS HBP
    by_cases hw:s=h.1
    ·subst hw
     by_cases ho:placeOK l h.2 k=true
     ·have HX:RowKit.Hid (placesF l h (l.length-(k+1)) (k+1) ((n:Int)+1)=placesZ l h):=Hd (by
       have:=HS.out;unfold isPlace at this;simpa [ho] using this)
      rw [ho] at CS
      go_wp2_with fail
      refine CS.out.mono ?_
      rintro e w2 ⟨rfl,rfl⟩
      go_wp2_with fail
      case roundEnd=>exact ⟨⟨k+1,n+1,by push_cast;rfl,by push_cast;rfl,by omega,by omega,by have:=HX.out;push_cast;exact this,HBP.out⟩,by simp only [intOf];omega⟩
     ·have ho:placeOK l h.2 k=false:=by simpa using ho
      have HX:RowKit.Hid (placesZ l h=-1):=Hd (by
       have:=HS.out;unfold isPlace at this;simpa [ho] using this.symm)
      rw [ho] at CS
      go_wp2_with fail
      refine CS.out.mono ?_
      rintro e w2 ⟨rfl,rfl⟩
      go_wp2_with fail
      exact HN.out _ (bthen HB1.out HBP.out) HX.out
    ·have HX:RowKit.Hid (placesF l h (l.length-(k+1)) (k+1) (n:Int)=placesZ l h):=Hd (by
      have:=HS.out;unfold isPlace at this;simpa [hw] using this)
     have g2:(s.toList == h.1.toList)=false:=by rw [beq_eq_false_iff_ne];exact pl_bytes_ne hw
     go_wp2_with fail
     case roundEnd=>exact ⟨⟨k+1,n,by push_cast;rfl,rfl,by omega,by omega,HX.out,HBP.out⟩,by simp only [intOf];omega⟩
   ·have HX:RowKit.Hid (placesF l h (l.length-(k+1)) (k+1) (n:Int)=placesZ l h):=Hd (by
     have:=HS.out;unfold isPlace at this;simpa [ha] using this)
    have g2:((a:Int) == 26)=false:=by rw [beq_eq_false_iff_ne];omega
    go_wp2_with fail
    case roundEnd=>exact ⟨⟨k+1,n,by push_cast;rfl,rfl,by omega,by omega,HX.out,HBP.out⟩,by simp only [intOf];omega⟩
  ·have hkl:k=l.length:=by omega
   subst hkl
   have hz:=HPF.out
   rw [Nat.sub_self,placesF] at hz
   have HX:=Hd (HQ.out wr (bthen HB1.out HB.out) (by omega))
   rw [← hz] at HX
   go_wp2_with fail
   exact HX.out
end Go.Proofs.YtmklemelgdilkaaGreatDoor
