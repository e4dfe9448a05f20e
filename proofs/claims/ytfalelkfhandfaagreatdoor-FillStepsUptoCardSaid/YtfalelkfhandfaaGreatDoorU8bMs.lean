/- Layer 1 in plain Lean, further: forms are read as they are; texts one behind the other; characters and texts, there and back. -/
import Derived.Test.YtfalelkfhandfaaGreatDoorU8Ms
import Derived.Laws.Concat
namespace Go.Proofs.YtfalelkfhandfaaGreatDoor

theorem xB (s:ByteArray):s.size=s.data.toList.length:=(Array.length_toList (xs:=s.data)).symm
theorem get!_list (s:ByteArray) (i:Nat):s.get! i=s.data.toList.getD i 0:=by
 by_cases h:i<s.size
 ·rw [get!_lt s i h]
  have h2:i<s.data.toList.length:=by rw [← xB];exact h
  rw [List.getD_eq_getElem?_getD,List.getElem?_eq_getElem h2];rfl
 ·rw [get!_ge s i (by omega),List.getD_eq_getElem?_getD,List.getElem?_eq_none (by rw [← xB];omega)];rfl
theorem data_append (s t:ByteArray):(s++t).data.toList=s.data.toList++t.data.toList:=by
 simp [ByteArray.data_append]
theorem zKy (r:Int):(form r).size=(formZ r).length:=by unfold form;exact strOfNums_size _
theorem zZe {r:Int} (hm:may r=true):1≤(form r).size:=by
 rw [zKy];unfold formZ;rw [if_neg (by simp [hm])]
 repeat' split
 all_goals simp

end Go.Proofs.YtfalelkfhandfaaGreatDoor
namespace Go.Proofs.YtfalelkfhandfaaGreatDoor

def zM:List (Nat×Nat):=[(0x41,0x5A),(0x5F,0x5F),(0x61,0x7A),(0xAA,0xAA),(0xB5,0xB5),(0xBA,0xBA),(0xC0,0xD6),(0xD8,0xF6),(0xF8,0x2C1),(0x370,0x373),(0x376,0x377),(0x37B,0x37D),(0x386,0x386),(0x388,0x38A),(0x38C,0x38C),(0x38E,0x3A1),(0x3A3,0x3F5),(0x400,0x481),(0x48A,0x52F),(0x531,0x556),(0x561,0x587),(0x5D0,0x5EA),(0x620,0x64A),(0x904,0x939),(0xE01,0xE30),(0x10A0,0x10C5),(0x1E00,0x1F15),(0x3041,0x3096),(0x30A1,0x30FA),(0x4E00,0x9FFF),(0xAC00,0xD7A3),(0x10400,0x1044F),(0x20000,0x2A6DF)]
def vO:List (Nat×Nat):=[(0x30,0x39),(0x660,0x669),(0x966,0x96F),(0xE50,0xE59),(0xFF10,0xFF19)]
def inR (l:List (Nat×Nat)) (r:Int):Bool:=l.any fun p=>decide ((p.1:Int)≤r)&&decide (r≤(p.2:Int))
@[irreducible] def letter (r:Int):Bool:=inR zM r
@[irreducible] def digit (r:Int):Bool:=inR vO r
def frm (l:List (Nat×Nat)) (i:Nat):Nat:=(l.getD i (0,0)).1
def too (l:List (Nat×Nat)) (i:Nat):Nat:=(l.getD i (0,0)).2
theorem zVh (l:List (Nat×Nat)) (r:Int) (i:Nat) (hi:i<l.length) (h1:(frm l i:Int)≤r) (h2:r≤(too l i:Int)):inR l r=true:=by
 unfold inR
 rw [List.any_eq_true]
 refine ⟨l[i],List.getElem_mem hi,?_⟩
 unfold frm at h1;unfold too at h2
 rw [List.getD_eq_getElem?_getD,List.getElem?_eq_getElem hi] at h1 h2
 simp at h1 h2 ⊢
 exact ⟨h1,h2⟩
theorem zMy (l:List (Nat×Nat)) (r:Int) (h:∀ i,i<l.length→r<(frm l i:Int)∨(too l i:Int)<r):inR l r=false:=by
 unfold inR
 rw [List.any_eq_false]
 intro p hp
 obtain ⟨i,hi,rfl⟩:=List.getElem_of_mem hp
 have:=h i hi
 unfold frm too at this
 rw [List.getD_eq_getElem?_getD,List.getElem?_eq_getElem hi] at this
 simp at this ⊢
 omega
theorem zGo:∀ i,i<33→∀ j,j<33→i≤j→frm zM i≤frm zM j∧too zM i≤too zM j:=by decide +kernel
theorem zIw:∀ i,i<33→frm zM i≤too zM i∧too zM i<1114112:=by decide +kernel
def words:List (List UInt8):=[[98,114,101,97,107],[99,97,115,101],[99,104,97,110],[99,111,110,115,116],[99,111,110,116,105,110,117,101],[100,101,102,97,117,108,116],[100,101,102,101,114],[101,108,115,101],[102,97,108,108,116,104,114,111,117,103,104],[102,111,114],[102,117,110,99],[103,111],[103,111,116,111],[105,102],[105,109,112,111,114,116],[105,110,116,101,114,102,97,99,101],[109,97,112],[112,97,99,107,97,103,101],[114,97,110,103,101],[114,101,116,117,114,110],[115,101,108,101,99,116],[115,116,114,117,99,116],[115,119,105,116,99,104],[116,121,112,101],[118,97,114]]
def word (s:ByteArray):Bool:=words.any fun w=>s.toList == w
def base (r:Int):Int:=if 48≤r∧r≤57 then r-48 else if 97≤r∧r≤102 then r-97+10 else if 65≤r∧r≤70 then r-65+10 else -1
def chk:Bool→List Int→Bool
 | _,[]=>true
 | first,x::l=>(letter x || (!first&&digit x))&&chk false l
@[irreducible] def name (s:ByteArray):Bool:=!s.toList.isEmpty&&!word s&&decide (bad s<0)&&chk true ((chars s).map fun (n:Nat)=>(n:Int))
end Go.Proofs.YtfalelkfhandfaaGreatDoor
namespace Go.Proofs.YtfalelkfhandfaaGreatDoor
set_option linter.all false

def dval (c:Nat):Nat:=if 48≤c∧c≤57 then c-48 else if 97≤c∧c≤102 then c-87 else if 65≤c∧c≤70 then c-55 else 99
theorem jS:dval 95=99:=by decide
theorem gX:dval 46=99:=by decide
def rowL (b:Nat):List Nat→Nat
 | []=>0
 | c::t =>
  if dval c<b then
   match t with
   | u::d::r=>if u=95∧dval d<b then 2+rowL b (d::r) else 1+rowL b (u::d::r)
   | [x]=>1+rowL b [x]
   | []=>1
  else 0
termination_by l=>l.length
theorem gD (b:Nat):rowL b []=0:=by rw [rowL]
theorem fX {b c:Nat} {t:List Nat} (h:¬ dval c<b):rowL b (c::t)=0:=by rw [rowL.eq_def];simp only [if_neg h]
theorem gY {b c d:Nat} {r:List Nat} (h:dval c<b) (hd:dval d<b):rowL b (c::95::d::r)=2+rowL b (d::r):=by
 rw [rowL.eq_def];simp only [if_pos h];rw [if_pos ⟨trivial,hd⟩]
theorem jT {b c:Nat} {t:List Nat} (h:dval c<b) (hn:¬ (t.head?=some 95∧∃ d,t[1]?=some d∧dval d<b)):rowL b (c::t)=1+rowL b t:=by
 rw [rowL.eq_def];simp only [if_pos h]
 match t,hn with
 | [],_=>rw [gD]
 | [x],_=>rfl
 | u::d::r,hn =>
  simp only []
  rw [if_neg]
  rintro ⟨rfl,hd⟩
  exact hn ⟨rfl,d,rfl,hd⟩
theorem kI (b:Nat):∀ l:List Nat,rowL b l≤l.length
 | []=>by rw [gD];exact Nat.le_refl _
 | c::t=>by
  by_cases h:dval c<b
  ·by_cases hn:t.head?=some 95∧∃ d,t[1]?=some d∧dval d<b
   ·match t,hn with
    | [],hn=>simp at hn
    | [x],hn=>simp at hn
    | u::d::r,⟨h1,d',h2,h3⟩ =>
     simp at h1 h2
     subst h1;subst h2
     rw [gY h h3]
     have:=kI b (d::r)
     simp only [List.length_cons] at this ⊢
     omega
   ·rw [jT h hn]
    have:=kI b t
    simp only [List.length_cons];omega
  ·rw [fX h];omega
termination_by l=>l.length
inductive RowP (b:Nat):List Nat→Prop
 | one {c:Nat}:dval c<b→RowP b [c]
 | next {c:Nat} {t:List Nat}:dval c<b→RowP b t→RowP b (c::t)
 | under {c:Nat} {t:List Nat}:dval c<b→RowP b t→RowP b (c::95::t)
theorem RowP.head {b:Nat} {l:List Nat} (h:RowP b l):∃ c t,l=c::t∧dval c<b:=by
 cases h with
 | one h=>exact ⟨_,_,rfl,h⟩
 | next h _=>exact ⟨_,_,rfl,h⟩
 | under h _=>exact ⟨_,_,rfl,h⟩
def stops (b:Nat) (r:List Nat):Prop:=∀ c,r.head?=some c→¬ dval c<b∧c≠95
theorem zCa (b:Nat):stops b []:=by intro c h;cases h
theorem zEi {b:Nat} {r:List Nat} (h:stops b r):rowL b r=0:=by
 cases r with
 | nil=>exact gD b
 | cons c t=>exact fX (h c rfl).1
theorem kA {b:Nat} (hb:b≤16) {a:List Nat} (ha:RowP b a) {r:List Nat} (hr:stops b r):rowL b (a++r)=a.length:=by
 induction ha with
 | one h =>
  rename_i c
  rw [List.singleton_append,jT h,zEi hr]
  ·rfl
  ·rintro ⟨h1,_⟩
   exact (hr 95 h1).2 rfl
 | next h ht ih =>
  rename_i c t
  rw [List.cons_append,jT h,ih,List.length_cons,Nat.add_comm]
  obtain ⟨d,t',rfl,hd⟩:=ht.head
  rintro ⟨h1,_⟩
  simp at h1
  subst h1
  rw [jS] at hd
  omega
 | under h ht ih =>
  rename_i c t
  obtain ⟨d,t',rfl,hd⟩:=ht.head
  rw [List.cons_append,List.cons_append,List.cons_append,gY h hd,← List.cons_append,ih]
  simp only [List.length_cons];omega
theorem fY {b:Nat}:∀ l:List Nat,0<rowL b l→RowP b (l.take (rowL b l))
 | [],h=>by rw [gD] at h;omega
 | c::t,h=>by
  by_cases hc:dval c<b
  ·by_cases hn:t.head?=some 95∧∃ d,t[1]?=some d∧dval d<b
   ·match t,hn with
    | [],hn=>simp at hn
    | [x],hn=>simp at hn
    | u::d::r,⟨h1,d',h2,h3⟩ =>
     simp at h1 h2
     subst h1;subst h2
     rw [gY hc h3]
     have h4:0<rowL b (d::r):=by
      by_cases hn2:r.head?=some 95∧∃ d,r[1]?=some d∧dval d<b
      ·match r,hn2 with
       | [],hn=>simp at hn
       | [x],hn=>simp at hn
       | u::e::r,⟨h1,d',h2,h4⟩ =>
        simp at h1 h2
        subst h1;subst h2
        rw [gY h3 h4];omega
      ·rw [jT h3 hn2];omega
     have:=fY (d::r) h4
     rw [show 2+rowL b (d::r)=rowL b (d::r)+1+1 by omega,List.take_succ_cons,List.take_succ_cons]
     exact RowP.under hc this
   ·rw [jT hc hn,Nat.add_comm,List.take_succ_cons]
    by_cases h0:0<rowL b t
    ·exact RowP.next hc (fY t h0)
    ·have:rowL b t=0:=by omega
     rw [this,List.take_zero]
     exact RowP.one hc
  ·rw [fX hc] at h;omega
termination_by l=>l.length
def rowOK (b:Nat) (l:List Nat):Bool:=!l.isEmpty&&rowL b l == l.length
theorem vW {b:Nat} (hb:b≤16) (l:List Nat):rowOK b l=true↔RowP b l:=by
 unfold rowOK
 constructor
 ·intro h
  simp at h
  have h2:0<rowL b l:=by
   rw [h.2]
   exact List.length_pos_iff.2 h.1
  have:=fY l h2
  rw [h.2,List.take_of_length_le (Nat.le_refl _)] at this
  exact this
 ·intro h
  have:=kA hb h (zCa b)
  rw [List.append_nil] at this
  obtain ⟨c,t,rfl,_⟩:=h.head
  simp [this]
def rowR (b:Nat) (l:List Nat):Bool :=
 !l.isEmpty&&decide (dval (l.getD 0 0)<b)&&decide (dval (l.getD (l.length-1) 0)<b) &&
  (List.range l.length).all fun i=>(l.getD i 0 == 95&&l.getD (i-1) 0 != 95) || decide (dval (l.getD i 0)<b)
theorem zHf {b:Nat} (hb:b≤16):∀ l:List Nat,rowR b l=true↔RowP b l
 | []=>by
  constructor
  ·intro h;cases h
  ·intro h;cases h
 | [c]=>by
  unfold rowR
  simp [List.range_succ]
  constructor
  ·intro h;exact RowP.one h
  ·intro h
   obtain ⟨c',t,h1,h2⟩:=h.head
   cases h1
   exact h2
 | c::d::t=>by
  have ih1:=zHf hb (d::t)
  have ih2:=zHf hb t
  unfold rowR at ih1 ih2 ⊢
  simp only [Bool.and_eq_true,List.all_eq_true,List.mem_range,decide_eq_true_eq,Bool.or_eq_true,beq_iff_eq,bne_iff_ne] at ih1 ih2 ⊢
  constructor
  ·rintro ⟨⟨⟨_,h1⟩,h2⟩,h3⟩
   simp only [List.getD_cons_zero] at h1
   have h4:=h3 1 (by simp)
   simp only [List.getD_cons_succ,List.getD_cons_zero,Nat.sub_self] at h4
   by_cases hd:dval d<b
   ·refine RowP.next h1 (ih1.1 ⟨⟨⟨by simp,by simpa using hd⟩,?_⟩,?_⟩)
    ·simpa using h2
    ·intro i hi
     have h5:=h3 (i+1) (by simp at hi ⊢;omega)
     rw [List.getD_cons_succ] at h5
     cases i with
     | zero=>right;simpa using hd
     | succ i =>
      rw [show i+1+1-1=(i+1-1)+1 by omega,List.getD_cons_succ] at h5
      exact h5
   ·rcases h4 with ⟨rfl,_⟩ | h4
    ·match t,ih2,h2,h3 with
     | [],_,h2,_=>simp [jS] at h2;omega
     | e::t,ih2,h2,h3 =>
      have h6:=h3 2 (by simp)
      simp only [List.getD_cons_succ,List.getD_cons_zero] at h6
      have he:dval e<b:=by
       rcases h6 with ⟨_,h6⟩ | h6
       ·exact absurd rfl h6
       ·exact h6
      refine RowP.under h1 (ih2.1 ⟨⟨⟨by simp,by simpa using he⟩,?_⟩,?_⟩)
      ·simpa using h2
      ·intro i hi
       have h5:=h3 (i+2) (by simp at hi ⊢;omega)
       rw [List.getD_cons_succ,List.getD_cons_succ] at h5
       cases i with
       | zero=>right;simpa using he
       | succ i =>
        rw [show i+1+2-1=(i+1-1)+1+1 by omega,List.getD_cons_succ,List.getD_cons_succ] at h5
        exact h5
    ·exact absurd h4 hd
  ·intro h
   cases h with
   | next hc ht =>
    obtain ⟨⟨⟨_,g1⟩,g2⟩,g3⟩:=ih1.2 ht
    simp only [List.getD_cons_zero] at g1
    refine ⟨⟨⟨by simp,by simpa using hc⟩,by simpa using g2⟩,?_⟩
    intro i hi
    cases i with
    | zero=>right;simpa using hc
    | succ i =>
     rw [List.getD_cons_succ]
     have g4:=g3 i (by simp at hi ⊢;omega)
     cases i with
     | zero=>right;simpa using g1
     | succ i =>
      rw [show i+1+1-1=(i+1-1)+1 by omega,List.getD_cons_succ]
      exact g4
   | under hc ht =>
    obtain ⟨⟨⟨g0,g1⟩,g2⟩,g3⟩:=ih2.2 ht
    obtain ⟨e,t',rfl,he⟩:=ht.head
    refine ⟨⟨⟨by simp,by simpa using hc⟩,by simpa using g2⟩,?_⟩
    intro i hi
    match i with
    | 0=>right;simpa using hc
    | 1 =>
     left
     refine ⟨by simp,?_⟩
     simp only [Nat.sub_self,List.getD_cons_zero]
     rintro rfl
     rw [jS] at hc
     omega
    | i+2 =>
     rw [List.getD_cons_succ,List.getD_cons_succ]
     have g4:=g3 i (by simp at hi ⊢;omega)
     cases i with
     | zero=>right;simpa using he
     | succ i =>
      rw [show i+1+2-1=(i+1-1)+1+1 by omega,List.getD_cons_succ,List.getD_cons_succ]
      exact g4
theorem zZr {b:Nat} (hb:b≤16) (l:List Nat):rowR b l=rowOK b l:=by
 rw [Bool.eq_iff_iff,zHf hb,vW hb]
end Go.Proofs.YtfalelkfhandfaaGreatDoor
namespace Go.Proofs.YtfalelkfhandfaaGreatDoor
set_option linter.all false

def bare (l:List Nat):List Nat:=if l.head?=some 95 then l.drop 1 else l
def wholeL (b:Nat) (l:List Nat):Nat:=if rowOK b (bare l) then 3 else 0
def signed (l:List Nat):Nat:=if l[1]?=some 43∨l[1]?=some 45 then 2 else 1
def powL (c1 c2:Nat) (l:List Nat):Nat :=
 if l.head?=some c1∨l.head?=some c2 then
  if 0<rowL 10 (l.drop (signed l)) then signed l+rowL 10 (l.drop (signed l)) else 0
 else 0
def tailK (b:Nat) (m:List Nat):Nat:=if m[rowL b m]?=some 46 then rowL b (m.drop (rowL b m+1))+1 else 0
def noDigit (b:Nat) (m:List Nat):Bool:=decide (tailK b m≠0∧rowL b m+(tailK b m-1)=0)
def zX (l:List Nat):Nat :=
 if rowOK 16 (bare l) then 3
 else if rowL 16 (bare l)=0∧l.head?=some 95 then 0
 else if noDigit 16 (bare l) then 0
 else if tailK 16 (bare l)=0∧rowL 16 (bare l)=0 then 0
 else if 0<powL 112 80 ((bare l).drop (rowL 16 (bare l)+tailK 16 (bare l)))∧rowL 16 (bare l)+tailK 16 (bare l)+powL 112 80 ((bare l).drop (rowL 16 (bare l)+tailK 16 (bare l)))=(bare l).length then 4 else 0
def tenL (l:List Nat):Nat :=
 if rowL 10 l=l.length∧0<rowL 10 l then (if l.head?≠some 48∨rowL 10 l=1 then 3 else wholeL 8 (l.drop 1))
 else if noDigit 10 l then 0
 else if 0<rowL 10 l+tailK 10 l∧0<tailK 10 l+powL 101 69 (l.drop (rowL 10 l+tailK 10 l))∧rowL 10 l+tailK 10 l+powL 101 69 (l.drop (rowL 10 l+tailK 10 l))=l.length then 4 else 0
def realL (l:List Nat):Nat :=
 if 1<l.length∧l.head?=some 48 then
  if l[1]?=some 98∨l[1]?=some 66 then wholeL 2 (l.drop 2)
  else if l[1]?=some 111∨l[1]?=some 79 then wholeL 8 (l.drop 2)
  else if l[1]?=some 120∨l[1]?=some 88 then zX (l.drop 2)
  else tenL l
 else tenL l
def kindL (l:List Nat):Nat :=
 if realL l≠0 then realL l
 else if l.getLast?≠some 105 then 0
 else if realL l.dropLast≠0∨(l.dropLast≠[]∧rowL 10 l.dropLast=l.dropLast.length) then 5 else 0

def yI (b:Nat) (l:List Nat):Bool:=rowOK b l || (decide (1<l.length)&&(l.head? == some 95&&rowOK b (l.drop 1)))
def zT (small big:Nat) (l:List Nat):Bool:=decide (2≤l.length)&&(l.head? == some 48&&(l[1]? == some small || l[1]? == some big))
def powR (small big:Nat) (l:List Nat):Bool :=
 decide (2≤l.length)&&((l.head? == some small || l.head? == some big)&&(if l[1]?=some 43∨l[1]?=some 45 then rowOK 10 (l.drop 2) else rowOK 10 (l.drop 1)))
def intR (l:List Nat):Bool :=
 l == [48] || (rowOK 10 l&&l.head? != some 48) || (decide (1<l.length)&&(l.head? == some 48&&yI 8 (l.drop 1))) ||
  (zT 98 66 l&&yI 2 (l.drop 2)) || (zT 111 79 l&&yI 8 (l.drop 2)) || (zT 120 88 l&&yI 16 (l.drop 2))
def zO (b:Nat) (hex:Bool):List Nat→List Nat→Bool
 | _,[]=>false
 | a,c::r=>if c=46 then ((rowOK b a || (hex&&yI b a))&&(r.isEmpty || rowOK b r)) || (a.isEmpty&&rowOK b r) else zO b hex (a++[c]) r
def xW (l:List Nat):Bool :=
 if zT 120 88 l then
  (List.range (l.length-2+1)).any fun i=>powR 112 80 ((l.drop 2).drop i)&&(zO 16 true [] ((l.drop 2).take i) || yI 16 ((l.drop 2).take i))
 else zO 10 false [] l || (List.range (l.length+1)).any fun i=>powR 101 69 (l.drop i)&&(zO 10 false [] (l.take i) || rowOK 10 (l.take i))
def kindR (l:List Nat):Nat :=
 if intR l then 3 else if xW l then 4
 else if 1<l.length∧l.getLast?=some 105 then (if intR l.dropLast || xW l.dropLast || rowOK 10 l.dropLast then 5 else 0) else 0

theorem zJx (b:Nat):rowOK b []=false:=rfl
theorem gR {b:Nat} {l:List Nat}:rowOK b l=true↔l≠[]∧rowL b l=l.length:=by unfold rowOK;simp
theorem zHg {b:Nat} {c:Nat} {t:List Nat} (h:¬ dval c<b):rowOK b (c::t)=false:=by
 unfold rowOK;rw [fX h];simp
theorem gE {b:Nat} (hb:b≤16) (l:List Nat):yI b l=rowOK b (bare l):=by
 unfold yI bare
 by_cases h:l.head?=some 95
 ·rw [if_pos h]
  obtain ⟨t,rfl⟩:∃ t,l=95::t:=by
   cases l with
   | nil=>cases h
   | cons c t=>simp at h;exact ⟨t,by rw [h]⟩
  rw [zHg (by rw [jS];omega)]
  cases t with
  | nil=>simp [zJx]
  | cons d t=>simp
 ·rw [if_neg h]
  have:(l.head? == some 95)=false:=by simpa using h
  rw [this];simp
theorem zAt {b:Nat} (hb:b≤16) (l:List Nat):wholeL b l=if yI b l then 3 else 0:=by unfold wholeL;rw [gE hb]
theorem zTf (c1 c2 c d:Nat) (t:List Nat):powL c1 c2 (c::d::t)=if c=c1∨c=c2 then (if d=43∨d=45 then (if 0<rowL 10 t then 2+rowL 10 t else 0) else (if 0<rowL 10 (d::t) then 1+rowL 10 (d::t) else 0)) else 0:=by
 unfold powL signed
 by_cases hs:d=43∨d=45
 ·simp [hs]
 ·simp [hs]
theorem zTg (c1 c2 c d:Nat) (t:List Nat):powR c1 c2 (c::d::t)=((c == c1 || c == c2)&&(if d=43∨d=45 then rowOK 10 t else rowOK 10 (d::t))):=by
 unfold powR
 simp
theorem zNp (c1 c2:Nat) (l:List Nat):powR c1 c2 l=true↔0<powL c1 c2 l∧powL c1 c2 l=l.length:=by
 match l with
 | []=>unfold powR powL;simp
 | [c]=>unfold powR powL signed;simp [gD]
 | c::d::t =>
  rw [zTg,zTf]
  by_cases hc:c=c1∨c=c2
  ·have h1:(c == c1 || c == c2)=true:=by simpa using hc
   rw [if_pos hc,h1,Bool.true_and]
   by_cases hs:d=43∨d=45
   ·rw [if_pos hs,if_pos hs,gR]
    have:=kI 10 t
    by_cases h0:0<rowL 10 t
    ·rw [if_pos h0]
     simp only [List.length_cons]
     constructor
     ·rintro ⟨_,h⟩;omega
     ·rintro ⟨_,h⟩;exact ⟨by rintro rfl;rw [gD] at h0;omega,by omega⟩
    ·rw [if_neg h0]
     constructor
     ·rintro ⟨h,h2⟩
      have:=List.length_pos_iff.2 h
      omega
     ·rintro ⟨h,_⟩;omega
   ·rw [if_neg hs,if_neg hs,gR]
    have:=kI 10 (d::t)
    by_cases h0:0<rowL 10 (d::t)
    ·rw [if_pos h0]
     simp only [List.length_cons] at this ⊢
     constructor
     ·rintro ⟨_,h⟩;omega
     ·rintro ⟨_,h⟩;exact ⟨by simp,by omega⟩
    ·rw [if_neg h0]
     constructor
     ·rintro ⟨h,h2⟩
      simp only [List.length_cons] at h2
      omega
     ·rintro ⟨h,_⟩;omega
  ·have h1:(c == c1 || c == c2)=false:=by
    rw [not_or] at hc
    simp [hc.1,hc.2]
   rw [if_neg hc,h1];simp
def Mant (b:Nat) (ae:Bool) (x:List Nat):Prop :=
 RowP b x∨(∃ a y,x=a++46::y∧RowP b a∧(y=[]∨RowP b y))∨(ae=true∧∃ y,x=46::y∧RowP b y)
theorem zBj {b:Nat} (hb:b≤16) (r:List Nat):stops b (46::r):=by
 intro c h
 simp at h
 subst h
 exact ⟨by rw [gX];omega,by omega⟩
theorem zNq {b:Nat} (hb:b≤16) {ae:Bool} {x r:List Nat} (hx:Mant b ae x) (hr:stops b r) (hr2:r.head?≠some 46) :
  rowL b (x++r)+tailK b (x++r)=x.length∧noDigit b (x++r)=false∧(tailK b (x++r)=0→0<rowL b (x++r))∧(ae=false→0<rowL b (x++r))∧(tailK b (x++r)=0↔RowP b x):=by
 have hpl:∀ {y:List Nat},RowP b y→0<y.length:=fun h=>by obtain ⟨c,t,rfl,_⟩:=h.head;simp
 rcases hx with hx | ⟨a,y,rfl,ha,hy⟩ | ⟨hae,y,rfl,hy⟩
 ·have h1:=kA hb hx hr
  have h2:tailK b (x++r)=0:=by
   unfold tailK
   rw [h1,List.getElem?_append_right (Nat.le_refl _),Nat.sub_self,if_neg]
   rw [← List.head?_eq_getElem?]
   exact hr2
  have:=hpl hx
  refine ⟨by omega,?_,fun _=>by omega,fun _=>by omega,fun _=>hx,fun _=>h2⟩
  unfold noDigit;rw [h2];simp
 ·have e:(a++46::y)++r=a++46::(y++r):=by simp
  rw [e]
  have h1:=kA hb ha (zBj hb (y++r))
  have h3:(a++46::(y++r)).drop (a.length+1)=y++r:=by
   rw [← List.drop_drop,List.drop_left];rfl
  have h4:rowL b (y++r)=y.length:=by
   rcases hy with rfl | hy
   ·rw [List.nil_append,zEi hr];rfl
   ·exact kA hb hy hr
  have h2:tailK b (a++46::(y++r))=y.length+1:=by
   unfold tailK
   rw [h1,List.getElem?_append_right (Nat.le_refl _),Nat.sub_self,if_pos (by rfl),h3,h4]
  have:=hpl ha
  refine ⟨by rw [h1,h2];simp,?_,fun _=>by omega,fun _=>by omega,fun h=>by omega,fun h=>?_⟩
  ·unfold noDigit;rw [h1,h2];simp;intro h;rw [h] at this;simp at this
  ·exfalso
   have h5:=kA hb h (zCa b)
   rw [List.append_nil] at h5
   have h6:=kA hb ha (zBj hb y)
   rw [h6] at h5
   simp at h5
 ·rw [List.cons_append]
  have h1:rowL b (46::(y++r))=0:=zEi (zBj hb _)
  have h4:=kA hb hy hr
  have h2:tailK b (46::(y++r))=y.length+1:=by
   unfold tailK
   rw [h1]
   simp [h4]
  have:=hpl hy
  refine ⟨by rw [h1,h2];simp,?_,fun h=>by omega,fun h=>by (rw [hae] at h;cases h),fun h=>by omega,fun h=>?_⟩
  ·unfold noDigit;rw [h1,h2];simp;intro h;rw [h] at this;simp at this
  ·obtain ⟨c,t,h5,h6⟩:=h.head
   simp at h5
   rw [← h5.1,gX] at h6
   omega
theorem zDi (b:Nat) (m:List Nat):rowL b m+tailK b m≤m.length:=by
 have h1:=kI b m
 unfold tailK
 split
 ·rename_i h
  have h2:=kI b (m.drop (rowL b m+1))
  have h3:=(List.getElem?_eq_some_iff.1 h).1
  rw [List.length_drop] at h2
  omega
 ·omega
theorem zNr {b:Nat} (ae:Bool) (m:List Nat) (h1:noDigit b m=false) (h2:tailK b m=0→0<rowL b m) (h3:ae=false→0<rowL b m):Mant b ae (m.take (rowL b m+tailK b m)):=by
 have ht:=@fY b m
 by_cases hk:tailK b m=0
 ·rw [hk,Nat.add_zero]
  exact Or.inl (ht (h2 hk))
 ·have hp:m[rowL b m]?=some 46:=by
   unfold tailK at hk
   split at hk
   ·assumption
   ·exact absurd rfl hk
  have hk2:tailK b m=rowL b (m.drop (rowL b m+1))+1:=by unfold tailK;rw [if_pos hp]
  have hlt:=(List.getElem?_eq_some_iff.1 hp).1
  have e:m.take (rowL b m+tailK b m)=m.take (rowL b m)++46::(m.drop (rowL b m+1)).take (rowL b (m.drop (rowL b m+1))):=by
   rw [hk2,List.take_add]
   congr 1
   rw [List.drop_eq_getElem_cons hlt,List.take_succ_cons]
   congr 1
   exact (List.getElem?_eq_some_iff.1 hp).2
  rw [e]
  have hy:=@fY b (m.drop (rowL b m+1))
  generalize hq:rowL b (m.drop (rowL b m+1))=q at *
  by_cases h0:0<rowL b m
  ·right;left
   refine ⟨_,_,rfl,ht h0,?_⟩
   by_cases hq0:0<q
   ·exact Or.inr (hy hq0)
   ·left
    rw [show q=0 by omega,List.take_zero]
  ·have h00:rowL b m=0:=by omega
   right;right
   have hq0:0<q:=by
    unfold noDigit at h1
    simp only [decide_eq_false_iff_not,not_and] at h1
    have:=h1 hk
    omega
   refine ⟨?_,_,?_,hy hq0⟩
   ·cases ae with
    | true=>rfl
    | false=>exact absurd (h3 rfl) h0
   ·rw [h00,List.take_zero,List.nil_append]
end Go.Proofs.YtfalelkfhandfaaGreatDoor
namespace Go.Proofs.YtfalelkfhandfaaGreatDoor
set_option linter.all false

theorem RowP.no_point {b:Nat} (hb:b≤16) {x:List Nat} (h:RowP b x):46∉x:=by
 induction h with
 | one h=>intro hm;simp at hm;subst hm;rw [gX] at h;omega
 | next h _ ih =>
  intro hm;simp at hm
  rcases hm with rfl | hm
  ·rw [gX] at h;omega
  ·exact ih hm
 | under h _ ih =>
  intro hm;simp at hm
  rcases hm with rfl | hm
  ·rw [gX] at h;omega
  ·exact ih hm
theorem gK {b:Nat} {hex:Bool}:∀ (l a:List Nat),zO b hex a l=true ↔
  ∃ x y,l=x++46::y∧46∉x∧((((rowOK b (a++x) || (hex&&yI b (a++x)))&&(y.isEmpty || rowOK b y)) || ((a++x).isEmpty&&rowOK b y))=true)
 | [],a=>by
  unfold zO
  constructor
  ·intro h;cases h
  ·rintro ⟨x,y,h,_⟩;simp at h
 | c::r,a=>by
  unfold zO
  by_cases hc:c=46
  ·subst hc
   rw [if_pos rfl]
   constructor
   ·intro h
    exact ⟨[],r,rfl,by simp,by simpa using h⟩
   ·rintro ⟨x,y,h1,h2,h3⟩
    cases x with
    | nil=>simp at h1;subst h1;simpa using h3
    | cons d x=>simp at h1;rw [← h1.1] at h2;simp at h2
  ·rw [if_neg hc,gK r (a++[c])]
   constructor
   ·rintro ⟨x,y,h1,h2,h3⟩
    refine ⟨c::x,y,by rw [h1];rfl,?_,by simpa using h3⟩
    simp;exact ⟨fun h=>hc h.symm,h2⟩
   ·rintro ⟨x,y,h1,h2,h3⟩
    cases x with
    | nil=>simp at h1;exact absurd h1.1 hc
    | cons d x =>
     simp at h1
     obtain ⟨rfl,rfl⟩:=h1
     simp at h2
     exact ⟨x,y,rfl,h2.2,by simpa using h3⟩
theorem mant10 (x:List Nat):(zO 10 false [] x || rowOK 10 x)=true↔Mant 10 true x:=by
 rw [Bool.or_eq_true,vW (by omega),gK]
 unfold Mant
 simp only [List.nil_append,Bool.false_and,Bool.or_false,Bool.or_eq_true,Bool.and_eq_true,vW (show 10≤16 by omega),List.isEmpty_iff]
 constructor
 ·rintro (⟨a,y,rfl,_,h | ⟨rfl,h⟩⟩ | h)
  ·exact Or.inr (Or.inl ⟨a,y,rfl,h⟩)
  ·exact Or.inr (Or.inr ⟨trivial,y,rfl,h⟩)
  ·exact Or.inl h
 ·rintro (h | ⟨a,y,rfl,h⟩ | ⟨_,y,rfl,h⟩)
  ·exact Or.inr h
  ·exact Or.inl ⟨a,y,rfl,h.1.no_point (by omega),Or.inl h⟩
  ·exact Or.inl ⟨[],y,rfl,by simp,Or.inr ⟨rfl,h⟩⟩
theorem mant16 (x:List Nat):(zO 16 true [] x || yI 16 x)=true↔(x.head?=some 95∧Mant 16 false x.tail)∨(x.head?≠some 95∧Mant 16 true x):=by
 have hu:∀ a,yI 16 a=true↔RowP 16 (bare a):=fun a=>by rw [gE (by omega),vW (by omega)]
 have hr:∀ a,(rowOK 16 a || yI 16 a)=yI 16 a:=fun a=>by unfold yI;cases rowOK 16 a <;> rfl
 rw [Bool.or_eq_true,gK]
 simp only [List.nil_append,Bool.true_and,hr,Bool.or_eq_true,Bool.and_eq_true,hu,List.isEmpty_iff,vW (show 16≤16 by omega)]
 unfold Mant
 by_cases hx:x.head?=some 95
 ·obtain ⟨t,rfl⟩:∃ t,x=95::t:=by
   cases x with
   | nil=>cases hx
   | cons c t=>simp at hx;exact ⟨t,by rw [hx]⟩
  have hb:bare (95::t)=t:=by unfold bare;simp
  rw [hb]
  constructor
  ·rintro (⟨a,y,h1,h2,h3⟩ | h)
   ·left
    refine ⟨rfl,?_⟩
    cases a with
    | nil=>simp at h1
    | cons c a =>
     simp at h1
     obtain ⟨rfl,rfl⟩:=h1
     have hb2:bare (95::a)=a:=by unfold bare;simp
     rw [hb2] at h3
     rcases h3 with h3 | ⟨h3,_⟩
     ·exact Or.inr (Or.inl ⟨a,y,rfl,h3⟩)
     ·cases h3
   ·exact Or.inl ⟨rfl,Or.inl h⟩
  ·rintro (⟨_,h | ⟨a,y,h1,h2⟩ | ⟨h,_⟩⟩ | ⟨h,_⟩)
   ·exact Or.inr h
   ·left
    simp at h1
    subst h1
    refine ⟨95::a,y,rfl,?_,Or.inl ?_⟩
    ·simp;exact h2.1.no_point (by omega)
    ·have hb2:bare (95::a)=a:=by unfold bare;simp
     rw [hb2];exact h2
   ·cases h
   ·exact absurd rfl h
 ·have hb:bare x=x:=by unfold bare;rw [if_neg hx]
  rw [hb]
  constructor
  ·rintro (⟨a,y,rfl,h2,h3⟩ | h)
   ·right
    refine ⟨hx,?_⟩
    have hb2:bare a=a:=by
     unfold bare
     rw [if_neg]
     intro h
     cases a with
     | nil=>cases h
     | cons c a=>exact hx (by simpa using h)
    rw [hb2] at h3
    rcases h3 with h3 | ⟨rfl,h3⟩
    ·exact Or.inr (Or.inl ⟨a,y,rfl,h3⟩)
    ·exact Or.inr (Or.inr ⟨rfl,y,rfl,h3⟩)
   ·exact Or.inr ⟨hx,Or.inl h⟩
  ·rintro (⟨h,_⟩ | ⟨_,h | ⟨a,y,rfl,h1,h2⟩ | ⟨_,y,rfl,h⟩⟩)
   ·exact absurd h hx
   ·exact Or.inr h
   ·left
    have hb2:bare a=a:=by
     unfold bare
     rw [if_neg]
     intro h
     cases a with
     | nil=>cases h
     | cons c a=>exact hx (by simpa using h)
    exact ⟨a,y,rfl,h1.no_point (by omega),Or.inl ⟨by rw [hb2];exact h1,h2⟩⟩
   ·exact Or.inl ⟨[],y,rfl,by simp,Or.inr ⟨rfl,h⟩⟩
theorem zCb {c1 c2:Nat} {r:List Nat} (h:powR c1 c2 r=true):r.head?=some c1∨r.head?=some c2:=by
 unfold powR at h
 simp at h
 exact h.2.1
theorem gL (c1 c2:Nat) (l:List Nat):powL c1 c2 l≤l.length:=by
 unfold powL
 split
 ·rename_i h
  split
  ·have h2:=kI 10 (l.drop (signed l))
   rw [List.length_drop] at h2
   have h3:signed l≤l.length:=by
    unfold signed
    split
    ·rename_i h4
     rcases h4 with h4 | h4 <;> (have:=(List.getElem?_eq_some_iff.1 h4).1;omega)
    ·cases l with
     | nil=>simp at h
     | cons c t=>simp
   omega
  ·omega
 ·omega
theorem zRw {b c1 c2:Nat} (hb:b≤16) (ae:Bool) (h1:¬ dval c1<b∧c1≠95∧c1≠46) (h2:¬ dval c2<b∧c2≠95∧c2≠46) (m:List Nat) :
  (∃ i,i≤m.length∧powR c1 c2 (m.drop i)=true∧Mant b ae (m.take i)) ↔
   (noDigit b m=false∧(tailK b m=0→0<rowL b m)∧(ae=false→0<rowL b m)∧0<powL c1 c2 (m.drop (rowL b m+tailK b m))∧rowL b m+tailK b m+powL c1 c2 (m.drop (rowL b m+tailK b m))=m.length):=by
 constructor
 ·rintro ⟨i,hi,hp,hm⟩
  have hh:=zCb hp
  have hr:stops b (m.drop i):=by
   intro c hc
   rcases hh with h | h <;> (rw [h] at hc;cases hc)
   ·exact ⟨h1.1,h1.2.1⟩
   ·exact ⟨h2.1,h2.2.1⟩
  have hr2:(m.drop i).head?≠some 46:=by
   intro hc
   rcases hh with h | h <;> (rw [h] at hc;cases hc)
   ·exact h1.2.2 rfl
   ·exact h2.2.2 rfl
  have:=zNq hb hm hr hr2
  rw [List.take_append_drop,List.length_take,Nat.min_eq_left hi] at this
  obtain ⟨g1,g2,g3,g4,_⟩:=this
  have hq:=(zNp c1 c2 (m.drop i)).1 hp
  rw [g1]
  refine ⟨g2,g3,g4,hq.1,?_⟩
  rw [hq.2,List.length_drop];omega
 ·rintro ⟨g1,g2,g3,g4,g5⟩
  have hle:=zDi b m
  refine ⟨rowL b m+tailK b m,hle,?_,zNr ae m g1 g2 g3⟩
  rw [zNp]
  refine ⟨g4,?_⟩
  rw [List.length_drop];omega
theorem fZ (n:Nat) (p:Nat→Bool):(List.range (n+1)).any p=true↔∃ i,i≤n∧p i=true:=by
 rw [List.any_eq_true]
 constructor
 ·rintro ⟨i,hi,h⟩;exact ⟨i,by have:=List.mem_range.1 hi;omega,h⟩
 ·rintro ⟨i,hi,h⟩;exact ⟨i,List.mem_range.2 (by omega),h⟩
theorem zQg (t:List Nat):zX t=if yI 16 t then 3 else if (List.range (t.length+1)).any (fun i=>powR 112 80 (t.drop i)&&(zO 16 true [] (t.take i) || yI 16 (t.take i))) then 4 else 0:=by
 unfold zX
 rw [gE (by omega)]
 by_cases hw:rowOK 16 (bare t)=true
 ·rw [if_pos hw,if_pos hw]
 ·rw [if_neg hw,if_neg hw]
  have c1:¬ dval 112<16∧112≠95∧112≠46:=by decide
  have c2:¬ dval 80<16∧80≠95∧80≠46:=by decide
  have key:(List.range (t.length+1)).any (fun i=>powR 112 80 (t.drop i)&&(zO 16 true [] (t.take i) || yI 16 (t.take i)))=true ↔
    (noDigit 16 (bare t)=false∧(tailK 16 (bare t)=0→0<rowL 16 (bare t))∧(decide (t.head?≠some 95)=false→0<rowL 16 (bare t))∧0<powL 112 80 ((bare t).drop (rowL 16 (bare t)+tailK 16 (bare t)))∧rowL 16 (bare t)+tailK 16 (bare t)+powL 112 80 ((bare t).drop (rowL 16 (bare t)+tailK 16 (bare t)))=(bare t).length):=by
   rw [fZ,← zRw (by omega) _ c1 c2]
   by_cases hx:t.head?=some 95
   ·obtain ⟨m,rfl⟩:∃ m,t=95::m:=by
     cases t with
     | nil=>cases hx
     | cons c t=>simp at hx;exact ⟨t,by rw [hx]⟩
    have hb:bare (95::m)=m:=by unfold bare;simp
    rw [hb]
    have hd:decide ((95::m).head?≠some 95)=false:=by simp
    rw [hd]
    constructor
    ·rintro ⟨i,hi,h⟩
     rw [Bool.and_eq_true,mant16] at h
     cases i with
     | zero =>
      have:=zCb h.1
      simp at this
     | succ i =>
      refine ⟨i,by simpa using hi,by simpa using h.1,?_⟩
      rcases h.2 with h3 | h3
      ·simpa using h3.2
      ·simp at h3
    ·rintro ⟨i,hi,h3,h4⟩
     refine ⟨i+1,by simpa using hi,?_⟩
     rw [Bool.and_eq_true,mant16]
     exact ⟨by simpa using h3,Or.inl ⟨by simp,by simpa using h4⟩⟩
   ·have hb:bare t=t:=by unfold bare;rw [if_neg hx]
    rw [hb]
    have hd:decide (t.head?≠some 95)=true:=by simpa using hx
    rw [hd]
    have hti:∀ i,(t.take i).head?≠some 95:=fun i h=>by
     cases t with
     | nil=>simp at h
     | cons c t =>
      cases i with
      | zero=>simp at h
      | succ i=>exact hx (by simpa using h)
    constructor
    ·rintro ⟨i,hi,h⟩
     rw [Bool.and_eq_true,mant16] at h
     refine ⟨i,hi,h.1,?_⟩
     rcases h.2 with h3 | h3
     ·exact absurd h3.1 (hti i)
     ·exact h3.2
    ·rintro ⟨i,hi,h3,h4⟩
     refine ⟨i,hi,?_⟩
     rw [Bool.and_eq_true,mant16]
     exact ⟨h3,Or.inr ⟨hti i,h4⟩⟩
  generalize (List.range (t.length+1)).any (fun i=>powR 112 80 (t.drop i)&&(zO 16 true [] (t.take i) || yI 16 (t.take i)))=B at *
  have hle:=kI 16 (bare t)
  generalize rowL 16 (bare t)=n at *
  generalize tailK 16 (bare t)=k at *
  generalize powL 112 80 ((bare t).drop (n+k))=p at *
  generalize noDigit 16 (bare t)=nd at *
  by_cases h1:n=0∧t.head?=some 95
  ·rw [if_pos h1,if_neg]
   intro hB
   have:=(key.1 hB).2.2.1 (by simp [h1.2])
   omega
  ·rw [if_neg h1]
   by_cases h2:nd=true
   ·rw [if_pos h2,if_neg]
    intro hB
    have:=(key.1 hB).1
    rw [h2] at this;cases this
   ·rw [if_neg h2]
    by_cases h3:k=0∧n=0
    ·rw [if_pos h3,if_neg]
     intro hB
     have:=(key.1 hB).2.1 h3.1
     omega
    ·rw [if_neg h3]
     by_cases h4:0<p∧n+k+p=(bare t).length
     ·rw [if_pos h4,if_pos]
      refine key.2 ⟨by simpa using h2,fun h=>by omega,fun h=>?_,h4.1,h4.2⟩
      have h5:t.head?=some 95:=by simpa using h
      have:n≠0:=fun h6=>h1 ⟨h6,h5⟩
      omega
     ·rw [if_neg h4,if_neg]
      intro hB
      have:=(key.1 hB).2.2.2
      exact h4 ⟨this.1,this.2⟩
theorem RowP.wide {b:Nat} (hb:b≤10) {l:List Nat} (h:RowP b l):RowP 10 l:=by
 induction h with
 | one h=>exact RowP.one (by omega)
 | next h _ ih=>exact RowP.next (by omega) ih
 | under h _ ih=>exact RowP.under (by omega) ih
theorem zWk (l:List Nat) (hx:zT 98 66 l=false) (ho:zT 111 79 l=false) (hh:zT 120 88 l=false):tenL l=if intR l then 3 else if xW l then 4 else 0:=by
 have c1:¬ dval 101<10∧101≠95∧101≠46:=by decide
 have c2:¬ dval 69<10∧69≠95∧69≠46:=by decide
 have hI:intR l=(l == [48] || (rowOK 10 l&&l.head? != some 48) || (decide (1<l.length)&&(l.head? == some 48&&yI 8 (l.drop 1)))):=by
  unfold intR;rw [hx,ho,hh];simp
 have hF:xW l=(zO 10 false [] l || (List.range (l.length+1)).any fun i=>powR 101 69 (l.drop i)&&(zO 10 false [] (l.take i) || rowOK 10 (l.take i))):=by
  unfold xW;rw [hh];rfl
 have key:(List.range (l.length+1)).any (fun i=>powR 101 69 (l.drop i)&&(zO 10 false [] (l.take i) || rowOK 10 (l.take i)))=true↔_ :=
  (fZ _ _).trans (Iff.trans (by
   constructor
   ·rintro ⟨i,hi,h⟩
    rw [Bool.and_eq_true,mant10] at h
    exact ⟨i,hi,h⟩
   ·rintro ⟨i,hi,h⟩
    refine ⟨i,hi,?_⟩
    rw [Bool.and_eq_true,mant10]
    exact h) (zRw (b:=10) (by omega) true c1 c2 l))
 unfold tenL
 by_cases hrow:rowL 10 l=l.length∧0<rowL 10 l
 ·rw [if_pos hrow]
  have hP:RowP 10 l:=by
   rw [← vW (by omega),gR]
   refine ⟨?_,hrow.1⟩
   rintro rfl
   rw [gD] at hrow;omega
  have hok:rowOK 10 l=true:=(vW (by omega) l).2 hP
  have hnf:xW l=false:=by
   rw [hF,Bool.eq_false_iff]
   intro h
   rw [Bool.or_eq_true] at h
   rcases h with h | h
   ·obtain ⟨x,y,h1,_⟩:=(gK l []).1 h
    exact hP.no_point (by omega) (by rw [h1];simp)
   ·have g:=key.1 h
    have h5:rowL 10 l+tailK 10 l+powL 101 69 (l.drop (rowL 10 l+tailK 10 l))=l.length:=g.2.2.2.2
    have h6:=g.2.2.2.1
    omega
  have e4:(if xW l=true then 4 else 0)=0:=by rw [hnf];rfl
  rw [e4,hI,hok]
  obtain ⟨c,t,rfl,hc⟩:=hP.head
  by_cases h48:c=48
  ·subst h48
   by_cases h1:rowL 10 (48::t)=1
   ·rw [if_pos (Or.inr h1),if_pos]
    have:t=[]:=by
     rw [← List.length_eq_zero_iff]
     have:=hrow.1
     simp at this;omega
    subst this
    simp
   ·rw [if_neg (by simp;exact h1)]
    have hlen:1<(48::t).length:=by rw [← hrow.1];omega
    have e1:((48::t:List Nat) == [48])=false:=by
     rw [beq_eq_false_iff_ne]
     rintro h;rw [h] at hlen;simp at hlen
    rw [zAt (by omega),e1]
    simp at hlen ⊢
    simp [hlen]
  ·rw [if_pos (Or.inl (by simpa using h48)),if_pos]
   simp [h48]
 ·rw [if_neg hrow]
  have hok:rowOK 10 l=false:=by
   rw [Bool.eq_false_iff]
   intro h
   obtain ⟨h1,h2⟩:=gR.1 h
   exact hrow ⟨h2,by rw [h2];exact List.length_pos_iff.2 h1⟩
  have hni:intR l=false:=by
   rw [hI,hok,Bool.eq_false_iff]
   intro h
   simp only [Bool.or_eq_true,Bool.false_and,Bool.and_eq_true,beq_iff_eq,decide_eq_true_eq] at h
   have hn:¬ RowP 10 l:=fun hh=>by rw [← vW (by omega),hok] at hh;cases hh
   rcases h with (h | h) | ⟨_,h1,h2⟩
   ·subst h;exact hn (RowP.one (by decide))
   ·cases h
   ·cases l with
    | nil=>cases h1
    | cons c t =>
     simp at h1
     subst h1
     rw [gE (by omega),vW (by omega)] at h2
     simp only [List.drop_succ_cons,List.drop_zero] at h2
     unfold bare at h2
     by_cases h95:t.head?=some 95
     ·rw [if_pos h95] at h2
      cases t with
      | nil=>cases h95
      | cons d t =>
       simp at h95
       subst h95
       exact hn (RowP.under (by decide) (h2.wide (by omega)))
     ·rw [if_neg h95] at h2
      exact hn (RowP.next (by decide) (h2.wide (by omega)))
  rw [hni]
  simp only [Bool.false_eq_true,if_false]
  have hle:=kI 10 l
  have hkl:=zDi 10 l
  have hpl:=gL 101 69 (l.drop (rowL 10 l+tailK 10 l))
  rw [List.length_drop] at hpl
  have hpt:zO 10 false [] l=true↔(noDigit 10 l=false∧0<tailK 10 l∧rowL 10 l+tailK 10 l=l.length):=by
   constructor
   ·intro h
    have hm:Mant 10 true l:=(mant10 l).1 (by rw [h];rfl)
    have:=zNq (r:=[]) (by omega) hm (zCa 10) (by simp)
    rw [List.append_nil] at this
    obtain ⟨g1,g2,_,_,g5⟩:=this
    refine ⟨g2,?_,g1⟩
    rcases Nat.eq_zero_or_pos (tailK 10 l) with h0 | h0
    ·have:=(vW (by omega) l).2 (g5.1 h0)
     rw [hok] at this;cases this
    ·exact h0
   ·rintro ⟨g1,g2,g3⟩
    have hm:=zNr (b:=10) true l g1 (fun h=>by omega) (fun h=>by cases h)
    rw [g3,List.take_of_length_le (Nat.le_refl _)] at hm
    have:=(mant10 l).2 hm
    rw [hok,Bool.or_false] at this
    exact this
  rw [hF]
  by_cases hnd:noDigit 10 l=true
  ·rw [if_pos hnd,if_neg]
   rw [Bool.or_eq_true]
   rintro (h | h)
   ·have:=(hpt.1 h).1;rw [hnd] at this;cases this
   ·have:=(key.1 h).1;rw [hnd] at this;cases this
  ·rw [if_neg hnd]
   have hnd':noDigit 10 l=false:=by simpa using hnd
   generalize (List.range (l.length+1)).any (fun i=>powR 101 69 (l.drop i)&&(zO 10 false [] (l.take i) || rowOK 10 (l.take i)))=B at *
   generalize zO 10 false [] l=A at *
   generalize rowL 10 l=n at *
   generalize tailK 10 l=k at *
   generalize powL 101 69 (l.drop (n+k))=p at *
   by_cases h4:0<n+k∧0<k+p∧n+k+p=l.length
   ·rw [if_pos h4,if_pos]
    rw [Bool.or_eq_true]
    by_cases hp0:p=0
    ·left;exact hpt.2 ⟨hnd',by omega,by omega⟩
    ·right;exact key.2 ⟨hnd',(fun h=>by omega),(fun h=>by cases h),by omega,h4.2.2⟩
   ·rw [if_neg h4,if_neg]
    rw [Bool.or_eq_true]
    rintro (h | h)
    ·have:=hpt.1 h;exact h4 ⟨by omega,by omega,by omega⟩
    ·have:=key.1 h
     have h5:=this.2.1
     exact h4 ⟨by omega,by omega,this.2.2.2.2⟩
theorem zEj (x:Nat) (t:List Nat) (h1:¬ dval x<10) (h2:x≠95) (h3:x≠46) (h4:x≠101) (h5:x≠69) :
  rowOK 10 (48::x::t)=false∧yI 8 (x::t)=false∧(zT 120 88 (48::x::t)=false→xW (48::x::t)=false):=by
 have hn:∀ t,¬ RowP 10 (48::x::t):=fun t h=>by
  have:=kA (b:=10) (by omega) h (zCa 10)
  rw [List.append_nil,jT (by decide),fX h1] at this
  ·simp at this
  ·rintro ⟨h,_⟩;simp at h;exact h2 h
 have hm:∀ t,¬ Mant 10 true (48::x::t):=fun t h=>by
  rcases h with h | ⟨a,y,h,ha,_⟩ | ⟨_,y,h,_⟩
  ·exact hn _ h
  ·cases a with
   | nil=>simp at h
   | cons c a =>
    cases a with
    | nil=>simp at h;exact h3 h.2.1
    | cons d a =>
     simp at h
     obtain ⟨rfl,rfl,_⟩:=h
     exact hn _ ha
  ·simp at h
 refine ⟨?_,?_,?_⟩
 ·rw [Bool.eq_false_iff];intro h;exact hn _ ((vW (by omega) _).1 h)
 ·rw [gE (by omega)]
  unfold bare
  rw [if_neg (by simpa using h2)]
  exact zHg (by omega)
 ·intro hh
  unfold xW
  rw [hh,Bool.eq_false_iff]
  intro h
  simp only [Bool.false_eq_true,if_false,Bool.or_eq_true] at h
  rcases h with h | h
  ·exact hm t ((mant10 _).1 (by rw [h];rfl))
  ·obtain ⟨i,hi,h⟩:=(fZ _ _).1 h
   rw [Bool.and_eq_true,mant10] at h
   obtain ⟨hp,hM⟩:=h
   match i with
   | 0=>have:=zCb hp;simp at this
   | 1=>have:=zCb hp;simp at this;rcases this with h | h <;> omega
   | i+2 =>
    rw [List.take_succ_cons,List.take_succ_cons] at hM
    exact hm _ hM
theorem xH (a b c d:Nat) (t:List Nat):zT a b (c::d::t)=(c == 48&&(d == a || d == b)):=by unfold zT;simp
theorem zRx (l:List Nat):realL l=if intR l then 3 else if xW l then 4 else 0:=by
 unfold realL
 by_cases h:1<l.length∧l.head?=some 48
 ·rw [if_pos h]
  match l,h with
  | c::x::t,h =>
   obtain ⟨_,h2⟩:=h
   simp at h2
   subst h2
   simp only [List.getElem?_cons_succ,List.getElem?_cons_zero,Option.some.injEq,List.drop_succ_cons,List.drop_zero]
   by_cases hb:x=98∨x=66
   ·rw [if_pos hb,zAt (by omega)]
    obtain ⟨g1,g2,g3⟩:=zEj x t (by rcases hb with rfl | rfl <;> decide) (by omega) (by omega) (by omega) (by omega)
    have e1:zT 98 66 (48::x::t)=true:=by rw [xH];simpa using hb
    have e2:zT 111 79 (48::x::t)=false:=by rw [xH];simp;omega
    have e3:zT 120 88 (48::x::t)=false:=by rw [xH];simp;omega
    have hI:intR (48::x::t)=yI 2 t:=by unfold intR;rw [e1,e2,e3,g1];simp [g2]
    rw [hI,g3 e3];simp
   ·rw [if_neg hb]
    by_cases ho:x=111∨x=79
    ·rw [if_pos ho,zAt (by omega)]
     obtain ⟨g1,g2,g3⟩:=zEj x t (by rcases ho with rfl | rfl <;> decide) (by omega) (by omega) (by omega) (by omega)
     have e1:zT 98 66 (48::x::t)=false:=by rw [xH];simp;omega
     have e2:zT 111 79 (48::x::t)=true:=by rw [xH];simpa using ho
     have e3:zT 120 88 (48::x::t)=false:=by rw [xH];simp;omega
     have hI:intR (48::x::t)=yI 8 t:=by unfold intR;rw [e1,e2,e3,g1];simp [g2]
     rw [hI,g3 e3];simp
    ·rw [if_neg ho]
     by_cases hx:x=120∨x=88
     ·rw [if_pos hx,zQg]
      obtain ⟨g1,g2,g3⟩:=zEj x t (by rcases hx with rfl | rfl <;> decide) (by omega) (by omega) (by omega) (by omega)
      have e1:zT 98 66 (48::x::t)=false:=by rw [xH];simp;omega
      have e2:zT 111 79 (48::x::t)=false:=by rw [xH];simp;omega
      have e3:zT 120 88 (48::x::t)=true:=by rw [xH];simpa using hx
      have hI:intR (48::x::t)=yI 16 t:=by unfold intR;rw [e1,e2,e3,g1];simp [g2]
      have hF:xW (48::x::t)=(List.range (t.length+1)).any (fun i=>powR 112 80 (t.drop i)&&(zO 16 true [] (t.take i) || yI 16 (t.take i))):=by
       unfold xW;rw [e3];simp
      rw [hI,hF]
     ·rw [if_neg hx]
      exact zWk _ (by rw [xH];simp;omega) (by rw [xH];simp;omega) (by rw [xH];simp;omega)
 ·rw [if_neg h]
  have hh:∀ a b,zT a b l=false:=fun a b=>by
   unfold zT
   rw [Bool.eq_false_iff]
   intro g
   simp only [Bool.and_eq_true,decide_eq_true_eq,beq_iff_eq] at g
   exact h ⟨by omega,g.2.1⟩
  exact zWk l (hh _ _) (hh _ _) (hh _ _)
theorem zZs (l:List Nat):kindL l=kindR l:=by
 unfold kindL kindR
 rw [zRx,zRx]
 have hrow:(l.dropLast≠[]∧rowL 10 l.dropLast=l.dropLast.length)↔rowOK 10 l.dropLast=true:=gR.symm
 simp only [hrow]
 cases hI:intR l
 ·cases hF:xW l
  ·simp only [Bool.false_eq_true,if_false,ne_eq,not_true_eq_false]
   by_cases hl:l.getLast?=some 105
   ·have hlen:l≠[]:=by rintro rfl;simp at hl
    by_cases h1:1<l.length
    ·generalize intR l.dropLast=a at *
     generalize xW l.dropLast=b at *
     generalize rowOK 10 l.dropLast=c at *
     cases a <;> cases b <;> cases c <;> simp [hl,h1]
    ·have:l.length=1:=by have:=List.length_pos_iff.2 hlen;omega
     obtain ⟨c,rfl⟩:=List.length_eq_one_iff.1 this
     have e1:intR []=false:=by decide
     have e2:xW []=false:=by decide
     simp [e1,e2,zJx]
   ·simp [hl]
  ·simp
 ·simp
end Go.Proofs.YtfalelkfhandfaaGreatDoor
