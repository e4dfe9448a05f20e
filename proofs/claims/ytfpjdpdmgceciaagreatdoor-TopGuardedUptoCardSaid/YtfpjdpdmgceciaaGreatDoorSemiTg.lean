/- Layer 8: the program's functions, walked: Ends, and the two closures of Of. -/
import Derived.Test.YtfpjdpdmgceciaaGreatDoorCoreTg
import Derived.Test.YtfpjdpdmgceciaaGreatDoorLexPTg
namespace Go.Proofs.YtfpjdpdmgceciaaGreatDoor
set_option maxRecDepth 100000
set_option maxHeartbeats 32000000
set_option linter.all false
open Go.RowKit
theorem zYh(k:Int)(hk:0<=k/\k<256)(t:ByteArray)(w:World) :
  Calls Tryz.prog 90 #[.int .u8 k,.string t] w λe w'=>e=.returned (.bool (endsK k t))/\w=w':=by
 have HQ:Hid (∀b,endsK k t=b->(λ(e:Ending) w'=>e=.returned (.bool (endsK k t))/\w=w') (.returned (.bool b)) w):=Hd λb h=>⟨by rw[h],rfl⟩
 have HV:Hid (endsK k t=if k=1\/(3<=k/\k<=7)then true else if k=2 then endWords.any λw=>t.toList==w else if k=8 then endSigns.any λw=>t.toList==w else false):=Hd (by unfold endsK;rfl);generalize(λ(e:Ending) w'=>e=.returned (.bool (endsK k t))/\w=w')=Q at *;have hcs:k=1\/k=3\/k=4\/k=5\/k=6\/k=7\/k=2\/k=8\/(k≠1/\k≠2/\k≠3/\k≠4/\k≠5/\k≠6/\k≠7/\k≠8):=Z;rcases hcs with rfl|rfl|rfl|rfl|rfl|rfl|rfl|rfl|⟨n1,n2,n3,n4,n5,n6,n7,n8⟩
 .go_enter Tryz.func90,Tryz.ntmps90;go_wp2_with fail;exact HQ.out _ (by rw[HV.out];rfl)
 .go_enter Tryz.func90,Tryz.ntmps90;go_wp2_with fail;exact HQ.out _ (by rw[HV.out];rfl)
 .go_enter Tryz.func90,Tryz.ntmps90;go_wp2_with fail;exact HQ.out _ (by rw[HV.out];rfl)
 .go_enter Tryz.func90,Tryz.ntmps90;go_wp2_with fail;exact HQ.out _ (by rw[HV.out];rfl)
 .go_enter Tryz.func90,Tryz.ntmps90;go_wp2_with fail;exact HQ.out _ (by rw[HV.out];rfl)
 .go_enter Tryz.func90,Tryz.ntmps90;go_wp2_with fail;exact HQ.out _ (by rw[HV.out];rfl)
 ·have HV2:Hid (endsK 2 t=endWords.any fun w=>t.toList == w):=Hd (by rw [HV.out];rfl);clear HV;go_enter Tryz.func90,Tryz.ntmps90;go_wp2_with fail;all_goals (
   refine HQ.out _ ?_;rw[HV2.out];unfold endWords;clear HQ HV2;first
    |(simp only[List.any_cons,List.any_nil, *,Bool.true_or,Bool.or_true,Bool.or_false,Bool.false_or];done)
    |(simp_all[Bool.or_assoc];done))
 ·have HV2:Hid (endsK 8 t=endSigns.any fun w=>t.toList == w):=Hd (by rw [HV.out];rfl);clear HV;go_enter Tryz.func90,Tryz.ntmps90;go_wp2_with fail;all_goals (
   refine HQ.out _ ?_;rw[HV2.out];unfold endSigns;clear HQ HV2;first
    |(simp only[List.any_cons,List.any_nil, *,Bool.true_or,Bool.or_true,Bool.or_false,Bool.false_or];done)
    |(simp_all[Bool.or_assoc];done))
 .have HV2:Hid (endsK k t=false):=Hd (by rw[HV.out,iN Z,iN n2,iN n8]);have m:∀c:Int,k≠c->(k==c)=false:=λc h=>by rw[bE];exact h
  have m1:=m 1 n1;have m2:=m 2 n2;have m3:=m 3 n3;have m4:=m 4 n4;have m5:=m 5 n5;have m6:=m 6 n6;have m7:=m 7 n7;have m8:=m 8 n8;clear HV m;go_enter Tryz.func90,Tryz.ntmps90;go_wp2_with fail;exact HQ.out _ HV2.out
theorem zRa(k f t:Int)(w:World) :
  Calls Tryz.prog 88 #[.agg #[.int .u8 k,.int .i64 f,.int .i64 t]] w λe w'=>e=.returned (.bool (silentK k))/\Below w.heap.size w w':=by
 have HQ:Hid (∀b w',silentK k=b->Below w.heap.size w w'->(λ(e:Ending) w'=>e=.returned (.bool (silentK k))/\Below w.heap.size w w') (.returned (.bool b)) w'):=Hd λb w' h h2=>⟨by rw[h],h2⟩
 generalize(λ(e:Ending) w'=>e=.returned (.bool (silentK k))/\Below w.heap.size w w')=Q at *;have HB:=Hd ((bR w.heap.size w).alloc (nR _) (.cells #[.int .u8 k,.int .i64 f,.int .i64 t] 52));have hcs:k=10\/k=11\/k=12\/(k≠10/\k≠11/\k≠12):=Z;rcases hcs with rfl|rfl|rfl|⟨n1,n2,n3⟩
 .go_enter Tryz.func88,Tryz.ntmps88;go_wp2_with fail;exact HQ.out _ _ rfl HB.out
 .go_enter Tryz.func88,Tryz.ntmps88;go_wp2_with fail;exact HQ.out _ _ rfl HB.out
 .go_enter Tryz.func88,Tryz.ntmps88;go_wp2_with fail;exact HQ.out _ _ rfl HB.out
 .have m:∀c:Int,k≠c->(k==c)=false:=λc h=>by rw[bE];exact h
  have m1:=m 10 n1;have m2:=m 11 n2;have m3:=m 12 n3;have HV:Hid (silentK k=false):=Hd (by unfold silentK;simp[n1,n2,n3]);clear m n1 n2 n3;go_enter Tryz.func88,Tryz.ntmps88;go_wp2_with fail;exact HQ.out _ _ HV.out HB.out
def endV:Option Nat->Int
 |some e=>e
 |none=>-1
structure SW(W:World)(g:Nat)(l:List Tok)(en:Option Nat):Prop where
 out:∃v,W.heap[g]?=some (.cells #[v] 40 (0,0))/\W.ownsRow (g+1+1) 52 3 v l.length (toksV l)
 ends:W.heap[g+1]?=some (.cells #[.int .i64 (endV en)] 3 (0,0))
theorem SW.keep{W W':World}{g:Nat}{l:List Tok}{en:Option Nat}(h:SW W g l en)(hb:Below W.heap.size W W'):SW W' g l en:=by
 obtain⟨⟨v,h1,h2⟩,h3⟩:=h;exact⟨⟨v,keeps hb h1,yM h2 hb⟩,keeps hb h3⟩
theorem SW.setEnds{W:World}{g:Nat}{l:List Tok}{en:Option Nat}(h:SW W g l en)(en':Option Nat):SW (W.setCell ⟨g+1,0,none⟩ (.int .i64 (endV en'))) g l en':=by
 obtain⟨⟨v,h1,h2⟩,h3⟩:=h;refine⟨⟨v,by rw[heap_setCell_other _ _ _ _ (by show g≠g+1;omega)];exact h1,ownsRow_setCell_other h2 (a:=⟨g+1,0,none⟩) (vN h2 (Or.inl (by show g+1<g+1+1;omega))) _⟩,one_setCell h3⟩
theorem SW.grew{W W1 W':World}{g:Nat}{l:List Tok}{en:Option Nat}{v v':Value}{t:Tok}(h:SW W g l en)(hc:W.heap[g]?=some (.cells #[v] 40 (0,0)))(hb:Below W.heap.size W W1)(hg:W1.grownBy W' v.ownBlock)(ho:W'.ownsRow (g+1+1) 52 3 v' (l.length+1) (toksV l++tokV t)):SW (W'.setCell ⟨g,0,none⟩ v') g (l++[t]) en:=by
 obtain⟨⟨v0,h1,h2⟩,h3⟩:=h;obtain rfl:v0=v:=by rw[h1]at hc;cases hc;rfl
 have hlt:=lt_of_block h3;have hsz:=hb.size;have n1:=vN h2 (g:=g) (Or.inl Z);have n2:=vN h2 (g:=g+1) (Or.inl Z);have k1:W'.heap[g]?=some (.cells #[v0] 40 (0,0)):=by rw[hg.block g Z (λe=>n1 e.symm),hb.block g Z];exact h1
 have k2:W'.heap[g+1]?=some (.cells #[.int .i64 (endV en)] 3 (0,0)):=by rw[hg.block (g+1) Z (λe=>n2 e.symm),hb.block (g+1) Z];exact h3
 refine⟨⟨v',one_setCell k1,?_⟩,?_⟩
 .rw[lA,zHp];exact ownsRow_setCell_other ho (a:=⟨g,0,none⟩) (vN ho (Or.inl (by show g<g+1+1;omega))) _
 .rw[heap_setCell_other _ _ _ _ (by show g+1≠g;omega)];exact k2
@[irreducible] def flushPost(g B:Nat)(w:World)(q:List Tok×Option Nat)(e:Ending)(w':World):Prop:=e=.returned (.tuple #[])/\SW w' g (flushZ q).1 (flushZ q).2/\Below B w w'
theorem zJh(g B:Nat)(l:List Tok)(en:Option Nat)(hl:l.length<=200000)(w:World)(hS:SW w g l en)(hB:B<=g) :
  Calls Tryz.prog 89 #[.pointer (some ⟨g+1,0,none⟩),.pointer (some ⟨g,0,none⟩)] w (flushPost g B w (l,en)):=by
 have HQ:Hid (∀w' l' en',flushZ (l,en)=(l',en')->SW w' g l' en'->Below B w w'->flushPost g B w (l,en) (.returned (.tuple #[])) w'):=Hd λw' l' en' h1 h2 h3=>by
  unfold flushPost;rw[h1];exact⟨rfl,h2,h3⟩
 generalize flushPost g B w (l,en)=Q at *;have HS:=Hd hS;obtain⟨⟨v,h1,h2⟩,h3⟩:=hS;have hlt:=lt_of_block h3;cases en with
 |none =>
  have c8:w.cell? ⟨g+1,0,none⟩=some (.int .i64 (-1)):=cell_of_one h3;have z8:=free_of_one h3;have HF:Hid (flushZ (l,none)=(l,none)):=Hd rfl;have HS2:Hid (SW (w.setCell ⟨g+1,0,none⟩ (.int .i64 (-1))) g l none):=Hd (HS.out.setEnds none);have HB2:=Hd ((bR B w).setCell (p:=⟨g+1,0,none⟩) (by show B<=g+1;omega) (.int .i64 (-1)));clear h1 h2 h3;go_enter Tryz.func89,Tryz.ntmps89;go_wp2_with fail;refine bodyPost_end (results_none rfl _ _ _) rfl ?_;exact HQ.out _ _ _ HF.out HS2.out HB2.out
 |some e =>
  have c8:w.cell? ⟨g+1,0,none⟩=some (.int .i64 (e:Int)):=cell_of_one h3;have z8:=free_of_one h3;have c7:=cell_of_one h1;have z7:=free_of_one h1;have H1:=Hd h1;have HO:=Hd h2;have HF:Hid (flushZ (l,some e)=(l++[(9,e,e)],none)):=Hd rfl;obtain⟨va,vm,vc,rfl⟩:=zI HO.out;have he0:(0:Int)<=e:=Z;have hbase:g+1+1<=w.heap.size:=Z;clear h1 h2 h3;go_enter Tryz.func89,Tryz.ntmps89;go_wp2_with (at_builtin;refine zQ w #[.int .u8 9,.int .i64 (e:Int),.int .i64 (e:Int)] _ rfl _ _ 40 52 rfl Tryz.underlying40 (g+1+1) zJg rfl V _ _ _ rfl HO.out 1 1 rfl rfl V (by intro u hu;simp at hu;rcases hu with rfl|rfl|rfl<;>rfl) Z Z hbase ?_);intro v' w' hown hgr _;obtain⟨va',vm',vc',rfl⟩:=zI hown;have HS2:=Hd (HS.out.grew (t:=(9,e,e)) H1.out ((bR _ _).alloc (nR _) _) hgr hown);have HS3:Hid (SW ((w'.setCell ⟨g,0,none⟩ (.slice va' vm' vc')).setCell ⟨g+1,0,none⟩ (.int .i64 (-1))) g (l++[(9,e,e)]) none):=Hd (HS2.out.setEnds none);have hb4:Below B w w':=xM (B:=B) (bR B w) Z (jZ HO.out Z) hgr;have HB4:=Hd ((hb4.setCell (p:=⟨g,0,none⟩) (by show B<=g;omega) (.slice va' vm' vc')).setCell (p:=⟨g+1,0,none⟩) (by show B<=g+1;omega) (.int .i64 (-1)));obtain⟨x2,k7,_⟩:=HS2.out.out;have zz7:w'.frozen? ⟨g,0,none⟩=false/\(w'.setCell ⟨g,0,none⟩ (.slice va' vm' vc')).frozen? ⟨g+1,0,none⟩=false/\w'.cell? ⟨g,0,none⟩=some (.slice va vm vc)/\(w'.setCell ⟨g,0,none⟩ (.slice va' vm' vc')).cell? ⟨g+1,0,none⟩=some (.int .i64 (e:Int)):=by
   have n1:=vN HO.out (g:=g) (Or.inl Z);have k1:w'.heap[g]?=some (.cells #[.slice va vm vc] 40 (0,0)):=by
    rw[hgr.block g (by simp;omega) (λe=>n1 e.symm),Below.heap_alloc _ _ _ Z];exact H1.out
   exact⟨free_of_one k1,free_of_one HS2.out.ends,cell_of_one k1,cell_of_one HS2.out.ends⟩
  obtain⟨y1,y2,y3,y4⟩:=zz7;clear hown hgr hb4 k7;go_wp2_with fail;refine bodyPost_end (results_none rfl _ _ _) rfl ?_;exact HQ.out _ _ _ HF.out HS3.out HB4.out
theorem zGf(s:ByteArray)(h:(scanAll s).2.1=0):(scanAll s).2.2=0:=by
 unfold scanAll at h ⊢;split
 .rfl
 .rename_i h1;rw[iN h1]at h;split
  .rename_i h2;rw[iP h2]at h;cases h
  .rename_i h2;rw[iN h2]at h;split
   .rename_i h3;rw[h3]at h;cases h
   .rfl
theorem TK.alloc{W:World}{g:Nat}{k f t:Int}(h:TK W g k f t)(o:Obj):TK (W.alloc o) g k f t:=by
 unfold TK at h ⊢;rw[Below.heap_alloc _ _ _ (lt_of_block h)];exact h
theorem vO{c:Prop}[Decidable c]{a b n:Nat}(h1:a<=n)(h2:b<=n):(if c then a else b)<=n:=by split<;>assumption
theorem zJi(b:Nat)(l:List Nat):wholeL b l<=4:=by unfold wholeL;exact vO Z Z
theorem zUa(l:List Nat):zJ l<=4:=by
 unfold zJ;exact vO Z (vO Z (vO Z (vO Z (vO Z Z))))
theorem yDr(l:List Nat):tenL l<=4:=by
 unfold tenL;exact vO (vO Z (zJi _ _)) (vO Z (vO Z Z))
theorem yGd(l:List Nat):realL l<=4:=by
 unfold realL;exact vO (vO (zJi _ _) (vO (zJi _ _) (vO (zUa _) (yDr _)))) (yDr _)
theorem yDs(l:List Nat):kindL l<=5:=by
 unfold kindL;exact vO (by have:=yGd l;omega) (vO Z (vO Z Z))
def byteP(q:Int×Int):Prop:=0<=q.1/\q.1<256
theorem vK{c:Prop}[Decidable c]{a b:Int×Int}(h1:byteP a)(h2:byteP b):byteP (if c then a else b):=by split<;>assumption
theorem vH(k x:Int)(h:0<=k/\k<256):byteP (k,x):=h
theorem yDt(s:ByteArray)(i:Nat):0<=(numScan s i).1/\(numScan s i).1<256:=by
 unfold numScan;split
 .split
  .have:=yDs (zA (s.extract (i:Int).toNat (numEnd s (i:Int).toNat)));exact⟨by show(0:Int)<=((kindL _:Nat):Int);omega,by show((kindL _:Nat):Int)<256;omega⟩
  .exact⟨V,V⟩
 .exact⟨V,V⟩
theorem zUb(s:ByteArray)(i:Nat):0<=(begun s i).1/\(begun s i).1<256:=by
 by_cases he:(begun s i).2.2.2=0
 .obtain⟨j,n,_,_,_,_,_,_,_,h⟩:=jL s i (begun s i).1 (begun s i).2.1 (begun s i).2.2.1 (by rw[<-he]);rcases h with⟨h,_⟩|⟨h,_⟩<;>rw[h]<;>omega
 .rw[(zXl s i he).1];omega
theorem yDu(s:ByteArray)(i:Nat):0<=(lex s i).1/\(lex s i).1<256:=by
 unfold lex;refine vK (vH _ _ Z) (vK (vH _ _ Z) (vK (vH _ _ Z) (vK ?_ (vK (vK (vH _ _ Z) (vH _ _ Z)) (vK (vH _ _ Z) (vK (vH _ _ (yDt s i)) (vK (vH _ _ (zUb s i)) (vK (vH _ _ Z) (vH _ _ Z)))))))));cases blockTo s (i+2)with
 |none=>exact vH _ _ Z
 |some e=>exact vH _ _ Z
theorem zLq(s:ByteArray)(i:Nat):∀t∈(alls s i).1,0<=t.1/\t.1<256:=by
 by_cases h:i<s.size
 .by_cases hk:(lex s i).1=0
  .rw[fO h hk];intro t ht;cases ht
  .obtain⟨e,h1,h2,h3⟩:=zBh s i h hk;rw[vI h (show lex s i=((lex s i).1,(e:Int))by rw[<-h1]) hk];intro t ht;rcases List.mem_cons.1 ht with rfl|ht
   .exact yDu s i
   .exact zLq s e t ht
 .rw[gN h];intro t ht;cases ht
termination_by s.size-i
decreasing_by omega
theorem zEh(s:ByteArray):∀t∈(scanAll s).1,0<=t.1/\t.1<256:=by
 have h1:∀i,∀t∈(alls s i).1,0<=t.1/\t.1<256:=λi=>zLq s i;unfold scanAll;split
 .intro t ht;cases ht
 .split
  .intro t ht;cases ht
  .split
   .intro t ht;cases ht
   .exact h1 0
theorem yGe{W W':World}{g:Nat}{l:List Tok}{en:Option Nat}{v:Value}(h:SW W g l en)(hc:W'.heap[g]?=some (.cells #[v] 40 (0,0)))(hb:Below W.heap.size W W'):W.ownsRow (g+1+1) 52 3 v l.length (toksV l):=by
 obtain⟨⟨v0,h1,h2⟩,h3⟩:=h;rw[hb.block g (lt_of_block h1),h1]at hc;cases hc
 exact h2
def ofRel(s:ByteArray)(w2:World)(l:List Tok)(i:Value)(wr:World):Prop :=
 ∃k:Nat,i=.int .i64 k/\k<=l.length/\SW wr w2.heap.size (semiFold s (l.take k)).1 (semiFold s (l.take k)).2/\Below w2.heap.size w2 wr
theorem yGf(s:ByteArray)(hs:s.size<=2147483647)(w:World)(hT:Tabs w)(hM:MaxC w) :
  Calls Tryz.prog 52 #[.string s] w (allPost (semiAll s) w):=by
 have HQ:Hid (∀w' v l e a,semiAll s=(l,e,a)->Below w.heap.size w w'->w'.ownsRow w.heap.size 52 3 v l.length (toksV l)->allPost (semiAll s) w (.returned (.tuple #[v,.agg #[.int .i64 e,.int .i64 a]])) w'):=Hd λw' v l e a h h2 h3=>by
  unfold allPost;rw[h];exact⟨v,rfl,h2,h3⟩
 have HV:Hid (semiAll s=_):=Hd (by unfold semiAll;rfl);generalize allPost (semiAll s) w=Q at *;have CA:=Hd (λw' (hb:Below w.heap.size w w')=>yDo s hs w' (hT.below hb) (hM.below hb));have HIN:=Hd (zUc s);have HLN:=zGg s;have HER:=zGf s;have HK8:=Hd (zEh s);have HF:Hid (∀(tm:Array Value) W' v l e a,semiAll s=(l,e,a)->Below w.heap.size w W'->W'.ownsRow w.heap.size 52 3 v l.length (toksV l)->FK W' w.heap.size e a->tm.getD 3 undef=.pointer (some ⟨w.heap.size,0,none⟩)->tm.getD 2 undef=v->bodyPost Tryz.prog Tryz.f52 Q .ret ⟨tm,[]⟩ W') :=
  Hd λtm W' v l e a h1 h2 h3 h4 h5 h6=>by
   refine bodyPost_ret (kX rfl tm W' w.heap.size 25 #[.int .i64 e,.int .i64 a] (0,0) _ h5 h4 Tryz.underlying25 rfl Oa) rfl ?_;rw[h6];exact HQ.out W' v l e a h1 h2 h3
 have hT4:FK (w.alloc (.cells #[.int .i64 0,.int .i64 0] 25)) w.heap.size 0 0:=by
  unfold FK;exact heap_alloc_new _ _
 have hbW:Below w.heap.size w (w.alloc (.cells #[.int .i64 0,.int .i64 0] 25)):=(bR _ _).alloc (nR _) _;have H4:=Hd hT4;have HBW:=Hd hbW;clear hT4 hbW;go_enter Tryz.func52,Tryz.ntmps52;go_wp2_with fail;refine(CA.out _ HBW.out).mono ?_;intro e w1 h1;unfold allPost at h1;generalize scanAll s=q at *;obtain⟨l,er,ea⟩:=q;simp only[]at *;obtain⟨v,rfl,hb1,ho1⟩:=h1;have HB1:=Hd (zD HBW.out hb1);have HF1:=Hd (H4.out.keep hb1);have HO1:=Hd ho1;have HA1:=Hd (HB1.out.alloc HB1.out.size (.cells #[.int .i64 er,.int .i64 ea] 25));have HF2:=Hd (HF1.out.alloc (.cells #[.int .i64 er,.int .i64 ea] 25));clear hb1 ho1 H4 HF1 HBW CA;by_cases her:er=0
 .obtain rfl:=HER her;subst her;rw[iP ⟨rfl,rfl⟩]at HV;have hX:FK (w1.alloc (.cells #[.int .i64 0,.int .i64 0] 25)) w1.heap.size 0 0:=by unfold FK;exact heap_alloc_new _ _
  have x0:=hX.c0;have x1:=hX.c1;have hW1:Below w1.heap.size w1 (w1.alloc (.cells #[.int .i64 0,.int .i64 0] 25)):=(bR _ _).alloc (nR _) _;have HW1:=Hd hW1;have hWlt:=lt_of_block (show(w1.alloc (.cells #[.int .i64 0,.int .i64 0] 25)).heap[w.heap.size]?=_ from HF2.out);have HTR:=Hd (λhpos=>zVp HO1.out hpos);obtain⟨_,va,vcap,rfl,hvcap,_,_⟩:=Row.of_owns HO1.out;clear hX hW1;have hlc:(0:Int)<=l.length:=Z;go_upto_region 4 with(fail);generalize w1.alloc (.cells #[.int .i64 0,.int .i64 0] 25)=W at *;have hS0:SW ((W.alloc (.cells #[.slice none 0 0] 40)).alloc (.cells #[.int .i64 (-1)] 3)) W.heap.size [] none:=by
   refine⟨⟨.slice none 0 0,by rw[Below.heap_alloc _ _ _ Ob];exact heap_alloc_new _ _,World.ownsRow_nil _ _ _ _⟩,?_⟩;have:=heap_alloc_new (W.alloc (.cells #[.slice none 0 0] 40)) (.cells #[.int .i64 (-1)] 3)
   simpa[endV]using this
  have HS0:=Hd hS0;have HB0:Hid (Below W.heap.size W ((W.alloc (.cells #[.slice none 0 0] 40)).alloc (.cells #[.int .i64 (-1)] 3))):=Hd (((bR _ _).alloc (nR _) _).alloc Ob _);clear hS0 x0 x1;go_wp2_with fail;go_loopw [25] (λi wr=>ofRel s W l i wr) (λi _=>l.length-(intOf i).toNat)
  case atStart=>exact⟨0,rfl,Nat.zero_le _,HS0.out,HB0.out⟩
  case round =>
   obtain⟨k,rfl,hk,hsw,hbw⟩:=hrel;have HSW:=Hd hsw;have HBW2:=Hd hbw;have hbs:=hbw.size;clear hsw hbw;have hfl:=zEi s (l.take k);have htl:(l.take k).length<=l.length:=by rw[List.length_take];omega
   by_cases hlt:k<l.length
   .have hlt':(k:Int)<l.length:=Z;obtain⟨b,cap',hv,hcap,hbl,hcell⟩:=HTR.out Z;simp only[Value.slice.injEq]at hv;obtain⟨rfl,_,rfl⟩:=hv;have hc:=hcell k hlt;have hin:=HIN.out l[k] (gM hlt);have hstep:=zKg s (l.take k) l[k];have hkk:=HK8.out l[k] (gM hlt);rw[<-List.take_succ_eq_append_getElem hlt]at hstep;generalize l[k]=t at *;obtain⟨kk,ff,tt⟩:=t;simp only[]at hc hin hkk;obtain⟨c0,c1,c2⟩:=hc;have hb12:Below w1.heap.size w1 wr:=zD HW1.out HBW2.out;have d0:wr.cell? ⟨b,k*3,none⟩=some (.int .u8 kk):=by rw[hb12.cell (p:=⟨b,k*3,none⟩) hbl];exact c0
    have d1:wr.cell? ⟨b,k*3+1,none⟩=some (.int .i64 (ff:Int)):=by rw[hb12.cell (p:=⟨b,k*3+1,none⟩) hbl];exact c1
    have d2:wr.cell? ⟨b,k*3+2,none⟩=some (.int .i64 (tt:Int)):=by rw[hb12.cell (p:=⟨b,k*3+2,none⟩) hbl];exact c2
    have HST:=Hd hstep;clear hcell hb12 c0 c1 c2 hstep hcap hbl;have hsl:∀w,(Instr.slice 9 (.string s) (some (.int .i64 (ff:Int))) (some (.int .i64 (tt:Int))) none).run Tryz.prog w=.ok (.string (s.extract ff tt)) w:=λw=>by
     rw[run_slice_string_if w _ s _ _ _ _ Tryz.underlying9,iP ⟨Z,Z⟩,iP ⟨Z,Z⟩,Int.toNat_natCast,Int.toNat_natCast]
    have HTA:=Hd (TK.alloc_new wr kk ff tt);have HBX0:=Hd (bR wr.heap.size wr);have HBA:Hid (Below wr.heap.size wr (wr.alloc (.cells #[.int .u8 kk,.int .i64 (ff:Int),.int .i64 (tt:Int)] 52))):=Hd ((bR _ _).alloc (nR _) _);generalize(semiFold s (l.take k))=q at *;obtain⟨o,en⟩:=q;simp only[]at *;go_wp2_with fail;refine(zRa kk ff tt _).mono ?_;rintro e w3 ⟨rfl,hb3⟩;have HTB:=Hd (HTA.out.keep hb3);have hb4:=zD HBA.out hb3;have HBX:=Hd hb4;have HSB:=Hd (HSW.out.keep hb4);have HBB:=Hd (zD HBW2.out hb4);have hz3:W.heap.size+1<w3.heap.size:=by have:=lt_of_block HSB.out.ends;exact this
    clear hb3 hb4 HTA HBA d0 d1 d2;cases hsi:silentK kk with
    |true =>
     have CC:Hid (∀w,Calls Tryz.prog 81 #[.string (s.extract ff tt),.string ⟨#[10]⟩] w λe w'=>e=.returned (.bool (hasNl s (kk,ff,tt)))/\w'=w):=Hd λw=>Tryz.strings_Contains_one (s.extract ff tt) 10 w
     go_wp2_with fail;refine(CC.out _).mono ?_;rintro e w4 ⟨rfl,rfl⟩;cases hnl:hasNl s (kk,ff,tt)with
     |true =>
      have HN:Hid (semiFold s (l.take (k+1))=flushZ (o,en)):=Hd (by rw[HST.out];unfold semiStep;rw[iP hsi,iP hnl]);clear hsi hnl;go_wp2_with fail;refine(zJh W.heap.size W.heap.size o en Z _ HSB.out (nR _)).mono ?_;intro e w5 h5;unfold flushPost at h5;obtain⟨rfl,hs5,hb5⟩:=h5;have HR:Hid (ofRel s W l (.int .i64 (k+1:Nat)) w5):=Hd ⟨k+1,rfl,hlt,by rw[HN.out];exact hs5,HBB.out.trans hb5⟩;clear hs5 hb5;have hwk:IntKind.i64.wrap ((k:Int)+1)=((k+1:Nat):Int):=wI Z;go_wp2_with fail;refine⟨?_,(by simp[intOf];try omega)⟩;first
       |exact HR.out
       | (repeat apply Exists.intro
          refine⟨?_,rfl⟩;exact HR.out)
     |false =>
      have HN:Hid (semiFold s (l.take (k+1))=(o,en)):=Hd (by rw[HST.out];unfold semiStep;rw[iP hsi,iN (by simp[hnl])]);clear hsi hnl;have HR:Hid (ofRel s W l (.int .i64 (k+1:Nat)) w4):=Hd ⟨k+1,rfl,hlt,by rw[HN.out];exact HSB.out,HBB.out⟩;have hwk:IntKind.i64.wrap ((k:Int)+1)=((k+1:Nat):Int):=wI Z;go_wp2_with fail;refine⟨?_,(by simp[intOf];try omega)⟩;first
       |exact HR.out
       | (repeat apply Exists.intro
          refine⟨?_,rfl⟩;exact HR.out)
    |false =>
     obtain⟨vo,hc7,ho7⟩:=HSB.out.out;obtain⟨oa,om,oc,rfl⟩:=zI ho7;have HC7:=Hd hc7;have HO7:=Hd ho7;have c7:=cell_of_one hc7;have z7:=free_of_one hc7;have z8:=free_of_one HSB.out.ends;have x0:=HTB.out.c0;have x1:=HTB.out.c1;have x2:=HTB.out.c2;have hbase:W.heap.size+1+1<=w3.heap.size:=Z;clear hc7 ho7;go_wp2_with (at_builtin;refine zQ w3 #[.int .u8 kk,.int .i64 (ff:Int),.int .i64 (tt:Int)] _ rfl _ _ 40 52 rfl Tryz.underlying40 (W.heap.size+1+1) zJg rfl V _ _ _ rfl HO7.out 1 1 rfl rfl V (by intro u hu;simp at hu;rcases hu with rfl|rfl|rfl<;>rfl) Z Z hbase ?_);intro v' w' hown hgr _;obtain⟨va',vm',vc',rfl⟩:=zI hown;have HS2:=Hd (HSB.out.grew (t:=(kk,ff,tt)) HC7.out ((bR _ _).alloc (nR _) _) hgr hown);have HS3:Hid (SW ((w'.setCell ⟨W.heap.size,0,none⟩ (.slice va' vm' vc')).setCell ⟨W.heap.size+1,0,none⟩ (.int .i64 (-1))) W.heap.size (o++[(kk,ff,tt)]) none):=Hd (HS2.out.setEnds none);have hb5:Below W.heap.size W w':=xM HBB.out Z (jZ HO7.out Z) hgr;have HB5:=Hd ((hb5.setCell (p:=⟨W.heap.size,0,none⟩) (nR _) (.slice va' vm' vc')).setCell (p:=⟨W.heap.size+1,0,none⟩) (by show W.heap.size<=W.heap.size+1;omega) (.int .i64 (-1)));have n1:=vN HO7.out (g:=W.heap.size) (Or.inl Z);have hzw:W.heap.size+1<wr.heap.size:=lt_of_block (show wr.heap[W.heap.size+1]?=_ from HSW.out.ends);have hwr:wr.heap.size<w3.heap.size:=lt_of_block (show w3.heap[wr.heap.size]?=_ from HTB.out);have n3:(Value.slice oa om oc).ownBlock≠some wr.heap.size:=vN (yGe HSW.out HC7.out HBX.out) (Or.inr (nR _));have k1:w'.heap[W.heap.size]?=some (.cells #[.slice oa om oc] 40 (0,0)):=by
      rw[hgr.block W.heap.size (by simp;omega) (λe=>n1 e.symm),Below.heap_alloc _ _ _ Z];exact HC7.out
     have hT5:TK w' wr.heap.size kk ff tt:=TK.grown (HTB.out.alloc _) hgr n3;have hT6:TK ((w'.setCell ⟨W.heap.size,0,none⟩ (.slice va' vm' vc')).setCell ⟨W.heap.size+1,0,none⟩ (.int .i64 (-1))) wr.heap.size kk ff tt:=(hT5.other _ _ (by show wr.heap.size≠W.heap.size;omega)).other _ _ (by show wr.heap.size≠W.heap.size+1;omega);have y1:=free_of_one k1;have y2:=free_of_one HS2.out.ends;have y3:=cell_of_one k1;have y4:=cell_of_one HS2.out.ends;have y5:=free_of_one HS3.out.ends;have u0:=hT6.c0;have u1:=hT6.c1;have u2':=hT6.c2;clear hown hgr hb5 n1 n3 k1 hT5 hT6;go_wp2_with fail;refine(zYh kk hkk _ _).mono ?_;rintro e w6 ⟨rfl,rfl⟩;cases hen:endsK kk (s.extract ff tt)with
     |true =>
      have HN:Hid (semiFold s (l.take (k+1))=(o++[(kk,ff,tt)],some tt)):=Hd (by rw[HST.out];unfold semiStep;rw[iN (by simp[hsi]),iP hen]);have HS4:Hid (SW (((w'.setCell ⟨W.heap.size,0,none⟩ (.slice va' vm' vc')).setCell ⟨W.heap.size+1,0,none⟩ (.int .i64 (-1))).setCell ⟨W.heap.size+1,0,none⟩ (.int .i64 (tt:Int))) W.heap.size (o++[(kk,ff,tt)]) (some tt)):=Hd (HS3.out.setEnds (some tt));have HR:Hid (ofRel s W l (.int .i64 (k+1:Nat)) (((w'.setCell ⟨W.heap.size,0,none⟩ (.slice va' vm' vc')).setCell ⟨W.heap.size+1,0,none⟩ (.int .i64 (-1))).setCell ⟨W.heap.size+1,0,none⟩ (.int .i64 (tt:Int)))):=Hd ⟨k+1,rfl,hlt,by rw[HN.out];exact HS4.out,HB5.out.setCell (p:=⟨W.heap.size+1,0,none⟩) (by show W.heap.size<=W.heap.size+1;omega) _⟩;clear hsi hen;have hwk:IntKind.i64.wrap ((k:Int)+1)=((k+1:Nat):Int):=wI Z;go_wp2_with fail;refine⟨?_,(by simp[intOf];try omega)⟩;first
       |exact HR.out
       | (repeat apply Exists.intro
          refine⟨?_,rfl⟩;exact HR.out)
     |false =>
      have HN:Hid (semiFold s (l.take (k+1))=(o++[(kk,ff,tt)],none)):=Hd (by rw[HST.out];unfold semiStep;rw[iN (by simp[hsi]),iN (by simp[hen])]);have HR:Hid (ofRel s W l (.int .i64 (k+1:Nat)) ((w'.setCell ⟨W.heap.size,0,none⟩ (.slice va' vm' vc')).setCell ⟨W.heap.size+1,0,none⟩ (.int .i64 (-1)))):=Hd ⟨k+1,rfl,hlt,by rw[HN.out];exact HS3.out,HB5.out⟩;clear hsi hen;have hwk:IntKind.i64.wrap ((k:Int)+1)=((k+1:Nat):Int):=wI Z;go_wp2_with fail;refine⟨?_,(by simp[intOf];try omega)⟩;first
       |exact HR.out
       | (repeat apply Exists.intro
          refine⟨?_,rfl⟩;exact HR.out)
   .obtain rfl:k=l.length:=Z;have hlt':¬(l.length:Int)<l.length:=Z;have etk:l.take l.length=l:=List.take_of_length_le (nR _);rw[etk]at HSW hfl;generalize semiFold s l=q at *;obtain⟨o,en⟩:=q;simp only[]at *;go_wp2_with fail;refine(zJh W.heap.size W.heap.size o en Z _ HSW.out (nR _)).mono ?_;intro e w5 h5;unfold flushPost at h5;obtain⟨rfl,hs5,hb5⟩:=h5;obtain⟨vo,hc7,ho7⟩:=hs5.out;obtain⟨oa,om,oc,rfl⟩:=zI ho7;have HO7:=Hd ho7;have HBF:=Hd (HA1.out.trans ((HBW2.out.trans hb5).mono (Nat.le_of_lt hWlt)));have HF5:Hid (FK w5 w.heap.size 0 0):=Hd (by
     have hb6:=HBW2.out.trans hb5;have:=HF2.out;unfold FK at this ⊢;rw[hb6.block _ hWlt];exact this)
    have c7:=cell_of_one hc7;have z40:=HF5.out.fz 0;have z41:=HF5.out.fz 1;have c40:=HF5.out.c0;have c41:=HF5.out.c1;clear hs5 hb5 hc7 ho7;go_wp2_with fail;have hnf:(Value.slice oa om oc).ownBlock≠some w.heap.size:=vN HO7.out (Or.inl Z);exact HF.out _ _ _ (flushZ (o,en)).1 0 0 HV.out (yG HBF.out (nR _) _ _) (jZ (ownsRow_setCell_other (ownsRow_setCell_other HO7.out (a:=⟨w.heap.size,0,none⟩) hnf _) (a:=⟨w.heap.size,1,none⟩) hnf _) Z) (HF5.out.fill _ _) rfl rfl
 .have herb:(er==0)=false:=by rw[bE];exact her
  rw[iN (λh=>her h.1)]at HV;have hX:FK (w1.alloc (.cells #[.int .i64 er,.int .i64 ea] 25)) w1.heap.size er ea:=by unfold FK;exact heap_alloc_new _ _
  have z40:=HF2.out.fz 0;have z41:=HF2.out.fz 1;have c40:=HF2.out.c0;have c41:=HF2.out.c1;have x0:=hX.c0;have x1:=hX.c1;have hlt:=lt_of_block (show(w1.alloc (.cells #[.int .i64 er,.int .i64 ea] 25)).heap[w.heap.size]?=_ from HF2.out);clear hX;go_wp2_with fail;generalize w1.alloc (.cells #[.int .i64 er,.int .i64 ea] 25)=W at *;go_region;all_goals go_wp2_with fail
  all_goals exact HF.out _ _ _ [] er ea HV.out (yG HA1.out (nR _) _ _).drew (World.ownsRow_nil _ _ _ _) (HF2.out.fill _ _) rfl rfl
end Go.Proofs.YtfpjdpdmgceciaaGreatDoor
namespace Go.Proofs.YtfpjdpdmgceciaaGreatDoor
set_option linter.all false
theorem zYz:∀c:Nat,blankB c=true->blank c=true:=by
 have h:∀c∈[32,9,10,13],blank c=true:=by unfold blank;decide +kernel
 intro c hc;exact h c (by have:=zCj hc;simp;omega)
theorem zVs{u:ByteArray}{a:Nat}(h:a<u.size)(hb:blankB (bt u a)=true):lex u a=(10,(blankTo u a:Int)):=by
 have hr:=vF h (by have:=zCj hb;omega);unfold lex;rw[hr,iN (by have:=zCj hb;simp only[];omega),iP (zYz _ hb)]
theorem zFm{u:ByteArray}{a:Nat}(h:a<u.size)(h1:bt u a<128)(h0:bt u a≠0)(hc:cleanZ u (a+1)<0):cleanZ u a<0:=by
 have hr:=vF h h1;have hb:badHere u a=false:=by unfold badHere;rw[hr];simp[h0];omega
 rw[gW h hb,hr];exact hc
theorem zKk{u:ByteArray}{a b:Nat}(h1:a<=b)(hb:b<=u.size)(hce:cleanZ u b<0)(hbom:(rd (u.extract a b) 0).1=65279->a=0)(j:Nat)(hj:a+j<=b)(hc:cleanZ (u.extract a b) j<0):cleanZ u (a+j)<0:=by
 by_cases hlt:a+j<b
 .have hz:=kE h1 hb;obtain⟨hg,h0,hn⟩:=kF hc Z;have hw:=xH (u.extract a b) j;have hr:=zGe h1 hb hlt h0;have hgu:badHere u (a+j)=false:=by
   unfold badHere at hg ⊢;simp only[Bool.or_eq_false_iff,decide_eq_false_iff_not,Bool.and_eq_false_iff]at hg ⊢;rw[hr];refine⟨hg.1,?_⟩;rcases hg.2 with g|g
   .exact Or.inl g
   .obtain rfl:j=0:=Z;by_cases g2:(rd (u.extract a b) 0).1=65279
    .exact Or.inr (by have:=hbom g2;omega)
    .exact Or.inl g2
  rw[gW Z hgu,hr,Nat.add_assoc];exact zKk h1 hb hce hbom (j+(rd (u.extract a b) j).2) Z hn
 .obtain rfl:a+j=b:=Z;exact hce
termination_by b-(a+j)
decreasing_by omega
def semS:ByteArray:=⟨#[59]⟩
def txt(s:ByteArray)(t:Tok):ByteArray:=if t.1=9 then semS else s.extract t.2.1 t.2.2
def tx(s:ByteArray)(t:Tok):Int×ByteArray:=(t.1,txt s t)
def fin(s:ByteArray):Bool->List Tok->Bool
 |en,[]=>en
 |_,t::r=>fin s (endsK t.1 (txt s t)) r
theorem fK(s:ByteArray):∀(l:List Tok)(en:Option Nat),∀t∈semiRec s en l,t.1=9\/(t∈l/\silentK t.1=false)
 |[],none=>by intro t ht;cases ht
 |[],some e=>by
  intro t ht;have:t=(9,e,e):=by simpa[semiRec,flushL]using ht
  subst this;exact Or.inl rfl
 |x::r,en=>by
  intro t ht;rw[semiRec]at ht;have up:(t.1=9\/(t∈r/\silentK t.1=false))->(t.1=9\/(t∈x::r/\silentK t.1=false)):=λh=>h.imp id (λh=>⟨List.mem_cons_of_mem _ h.1,h.2⟩)
  by_cases hs:silentK x.1=true
  .rw[iP hs]at ht;by_cases hn:hasNl s x=true
   .rw[iP hn]at ht;rcases List.mem_append.1 ht with ht|ht
    .cases en with
     |none=>cases ht
     |some e =>
      have:t=(9,e,e):=by simpa[flushL]using ht
      subst this;exact Or.inl rfl
    .exact up (fK s r none t ht)
   .rw[iN hn]at ht;exact up (fK s r en t ht)
  .rw[iN hs]at ht;rcases List.mem_cons.1 ht with rfl|ht
   .exact Or.inr ⟨List.mem_cons_self,by simpa using hs⟩
   .exact up (fK s r _ t ht)
theorem zRq(s:ByteArray)(i:Nat)(hc:cleanZ s i<0):∀t∈(alls s i).1,lex s t.2.1=(t.1,(t.2.2:Int))/\cleanZ s t.2.1<0/\cleanZ s t.2.2<0:=by
 by_cases h:i<s.size
 .by_cases hk:(lex s i).1=0
  .rw[fO h hk];intro t ht;cases ht
  .obtain⟨e,h1,h2,h3⟩:=zBh s i h hk;have hce:=zYx s i h hc e hk h1;have hl:lex s i=((lex s i).1,(e:Int)):=by rw[<-h1]
   rw[vI h hl hk];intro t ht;rcases List.mem_cons.1 ht with rfl|ht
   .exact⟨hl,hc,hce⟩
   .exact zRq s e hce t ht
 .rw[gN h];intro t ht;cases ht
termination_by s.size-i
decreasing_by omega
attribute [local irreducible] zA
end Go.Proofs.YtfpjdpdmgceciaaGreatDoor
namespace Go.Proofs.YtfpjdpdmgceciaaGreatDoor
set_option linter.all false
def bch(s:ByteArray)(t:Tok):Nat:=if t.1=8/\t.2.2=t.2.1+1 then bt s t.2.1 else 0
def closer(c:Nat):Nat:=if c=40 then 41 else if c=91 then 93 else if c=123 then 125 else 0
def isClose(c:Nat):Bool:=c==41 || c==93 || c==125
def nestGo(s:ByteArray)(toks:List Tok):List Tok->Nat->List Nat->List Int->Nat->Except (Int×Int) (List Int×Nat)
 |[],_,[],p,m=>.ok (p,m)
 |[],_,o::_,_,_=>.error (5,((toks.getD o (0,0,0)).2.1:Nat))
 |t::r,i,op,p,m =>
  if closer (bch s t)≠0 then(if op.length=100 then .error (6,(t.2.1:Nat))else nestGo s toks r (i+1) (i::op) (p.set i (-1)) (max m (op.length+1)))
  else if isClose (bch s t)then match op with
   |[]=>.error (5,(t.2.1:Nat))
   |o::op'=>if closer (bch s (toks.getD o (0,0,0)))=bch s t then nestGo s toks r (i+1) op' (((p.set i (-1)).set i (o:Int)).set o (i:Int)) m else .error (5,(t.2.1:Nat))
  else nestGo s toks r (i+1) op (p.set i (-1)) m
theorem kH(s:ByteArray)(T:List Tok)(t:Tok)(r:List Tok)(i:Nat)(op:List Nat)(p:List Int)(m:Nat):nestGo s T (t::r) i op p m =
  if closer (bch s t)≠0 then(if op.length=100 then .error (6,(t.2.1:Nat))else nestGo s T r (i+1) (i::op) (p.set i (-1)) (max m (op.length+1)))
  else if isClose (bch s t)then match op with
   |[]=>.error (5,(t.2.1:Nat))
   |o::op'=>if closer (bch s (T.getD o (0,0,0)))=bch s t then nestGo s T r (i+1) op' (((p.set i (-1)).set i (o:Int)).set o (i:Int)) m else .error (5,(t.2.1:Nat))
  else nestGo s T r (i+1) op (p.set i (-1)) m:=by rw[nestGo.eq_def]
theorem yW(p:List Int)(i j:Nat)(v:Int)(hi:i<p.length):(p.set i v).getD j 0=if j=i then v else p.getD j 0:=by
 rw[gD,gD,List.getElem?_set];by_cases h:i=j
 .subst h;rw[iP rfl,iP hi,iP rfl];rfl
 .rw[iN h,iN (λe=>h e.symm)]
structure NInv(n i:Nat)(op:List Nat)(p:List Int):Prop where
 len:p.length=n
 le:i<=n
 open1:∀o∈op,o<i/\p.getD o 0=-1
 sorted:op.Pairwise (λa b=>b<a)
 pair:∀k,k<i->p.getD k 0=-1\/∃j:Nat,j<i/\p.getD k 0=j/\p.getD j 0=k/\j≠k
 nest:∀a b:Nat,a<b->b<i->p.getD a 0=b->(∀k,a<k->k<b->p.getD k 0=-1\/∃c:Nat,p.getD k 0=c/\a<c/\c<b)/\∀o∈op,¬(a<o/\o<b)
theorem NInv.skip{n i:Nat}{op:List Nat}{p:List Int}(h:NInv n i op p)(hi:i<n):NInv n (i+1) op (p.set i (-1)):=by
 have hg:∀j,(p.set i (-1)).getD j 0=if j=i then -1 else p.getD j 0:=λj=>yW p i j (-1) (by rw[h.len];exact hi)
 refine⟨by rw[List.length_set];exact h.len,hi,λo ho=>?_,h.sorted,λk hk=>?_,λa b hab hb hp=>?_⟩
 .have:=h.open1 o ho;rw[hg,iN Z];exact⟨Z,this.2⟩
 .rw[hg];by_cases e:k=i
  .rw[iP e];exact Or.inl rfl
  .rw[iN e];rcases h.pair k Z with g|⟨j,g1,g2,g3,g4⟩
   .exact Or.inl g
   .refine Or.inr ⟨j,Z,g2,?_,g4⟩;rw[hg,iN Z];exact g3
 .rw[hg]at hp;by_cases e:a=i
  .omega
  .rw[iN e]at hp;have hbi:b<i:=by
    rcases h.pair a Z with g|⟨j,g1,g2,_⟩
    .omega
    .omega
   obtain⟨g1,g2⟩:=h.nest a b hab hbi hp;refine⟨λk k1 k2=>?_,g2⟩;rw[hg,iN Z];exact g1 k k1 k2
theorem NInv.push{n i:Nat}{op:List Nat}{p:List Int}(h:NInv n i op p)(hi:i<n):NInv n (i+1) (i::op) (p.set i (-1)):=by
 have hs:=h.skip hi;have hg:∀j,(p.set i (-1)).getD j 0=if j=i then -1 else p.getD j 0:=λj=>yW p i j (-1) (by rw[h.len];exact hi)
 refine⟨hs.len,hs.le,λo ho=>?_,?_,hs.pair,λa b hab hb hp=>?_⟩
 .rcases List.mem_cons.1 ho with rfl|ho
  .exact⟨Z,by rw[hg,iP rfl]⟩
  .exact hs.open1 o ho
 .exact List.pairwise_cons.2 ⟨λo ho=>(h.open1 o ho).1,h.sorted⟩
 .obtain⟨g1,g2⟩:=hs.nest a b hab hb hp;refine⟨g1,λo ho=>?_⟩;rcases List.mem_cons.1 ho with rfl|ho
  .omega
  .exact g2 o ho
theorem NInv.pop{n i o:Nat}{op:List Nat}{p:List Int}(h:NInv n i (o::op) p)(hi:i<n):NInv n (i+1) op (((p.set i (-1)).set i (o:Int)).set o (i:Int)):=by
 obtain⟨ho1,ho2⟩:=h.open1 o List.mem_cons_self;have hpw:=List.pairwise_cons.1 h.sorted;have hg:∀j,(((p.set i (-1)).set i (o:Int)).set o (i:Int)).getD j 0=if j=o then(i:Int)else if j=i then(o:Int)else p.getD j 0:=λj=>by
  rw[yW _ o j _ (by rw[List.length_set,List.length_set,h.len];omega),yW _ i j _ (by rw[List.length_set,h.len];exact hi),yW _ i j _ (by rw[h.len];exact hi)];by_cases e:j=o
  .rw[iP e,iP e]
  .rw[iN e,iN e];by_cases e2:j=i
   .rw[iP e2,iP e2]
   .rw[iN e2,iN e2,iN e2]
 -- nobody's partner is o
 have hno:∀k:Nat,k<i->p.getD k 0≠(o:Int):=λk hk e=>by
  rcases h.pair k hk with g|⟨j,g1,g2,g3,g4⟩
  .omega
  .have:j=o:=Z;subst this;omega
 refine⟨by rw[List.length_set,List.length_set,List.length_set];exact h.len,hi,λx hx=>?_,hpw.2,λk hk=>?_,λa b hab hb hp=>?_⟩
 .obtain⟨x1,x2⟩:=h.open1 x (List.mem_cons_of_mem _ hx);have:=hpw.1 x hx;rw[hg,iN Z,iN Z];exact⟨Z,x2⟩
 .by_cases e:k=o
  .refine Or.inr ⟨i,Z,by rw[hg,iP e],?_,Z⟩;rw[hg,iN Z,iP rfl,e]
  .by_cases e2:k=i
   .refine Or.inr ⟨o,Z,by rw[hg,iN e,iP e2],?_,Z⟩;rw[hg,iP rfl,e2]
   .rcases h.pair k Z with g|⟨j,g1,g2,g3,g4⟩
    .left;rw[hg,iN e,iN e2];exact g
    .refine Or.inr ⟨j,Z,by rw[hg,iN e,iN e2];exact g2,?_,g4⟩;have hjo:j≠o:=λq=>by subst q;omega
     rw[hg,iN hjo,iN Z];exact g3
 .rw[hg]at hp;by_cases e:a=o
  .rw[iP e]at hp;have hbi:b=i:=Z;subst e;subst hbi;refine⟨λk k1 k2=>?_,λx hx=>?_⟩
   .rw[hg,iN Z,iN Z];rcases h.pair k Z with g|⟨j,g1,g2,g3,g4⟩
    .exact Or.inl g
    .refine Or.inr ⟨j,g2,?_,g1⟩;rcases Nat.lt_or_ge a j with q|q
     .exact q
     .exfalso;rcases Nat.lt_or_ge j a with q2|q2
      .have:=(h.nest j k Z Z g3).2 a List.mem_cons_self;exact this ⟨q2,k1⟩
      .have:j=a:=Z;subst this;omega
   .have:=hpw.1 x hx;omega
  .rw[iN e]at hp;by_cases e2:a=i
   .rw[iP e2]at hp;omega
   .rw[iN e2]at hp;have hbi:b<i:=by
     rcases h.pair a Z with g|⟨j,g1,g2,_⟩
     .omega
     .omega
    obtain⟨g1,g2⟩:=h.nest a b hab hbi hp;refine⟨λk k1 k2=>?_,λx hx=>g2 x (List.mem_cons_of_mem _ hx)⟩;have hko:k≠o:=λq=>by subst q;exact g2 k List.mem_cons_self ⟨k1,k2⟩
    rw[hg,iN hko,iN Z];exact g1 k k1 k2
theorem zAh(s:ByteArray)(toks:List Tok):∀(r:List Tok)(i:Nat)(op:List Nat)(p:List Int)(m:Nat)(q:List Int×Nat),i+r.length=toks.length->NInv toks.length i op p->nestGo s toks r i op p m=.ok q->NInv toks.length toks.length [] q.1
 |[],i,[],p,m,q,hl,h,he=>by
  simp only[nestGo]at he;cases he
  have:i=toks.length:=by simpa using hl
  subst this;exact h
 |[],i,o::_,p,m,q,hl,h,he=>by simp only[nestGo]at he;cases he
 |t::r,i,op,p,m,q,hl,h,he=>by
  have hi:i<toks.length:=by simp only[lC]at hl;omega
  have hl':i+1+r.length=toks.length:=by simp only[lC]at hl;omega
  unfold nestGo at he;split at he
  .split at he
   .cases he
   .exact zAh s toks r _ _ _ _ q hl' (h.push hi) he
  .split at he
   .split at he
    .cases he
    .split at he
     .exact zAh s toks r _ _ _ _ q hl' (h.pop hi) he
     .cases he
   .exact zAh s toks r _ _ _ _ q hl' (h.skip hi) he
theorem NInv.start(n:Nat):NInv n 0 [] (List.replicate n 0) :=
 ⟨List.length_replicate,Nat.zero_le _,(λo ho=>by cases ho),List.Pairwise.nil,(λk hk=>Z),(λa b hab hb=>Z)⟩
def bx(q:Int×ByteArray):Nat:=if q.1=8/\q.2.size=1 then bt q.2 0 else 0
theorem zHs{sz:Nat}:∀{l:List Tok}{a:Nat},inOrd sz a l->∀t∈l,t.2.1<=t.2.2/\t.2.2<=sz
 |[],_,_=>by intro t ht;cases ht
 |x::r,a,h=>by
  intro t ht;obtain⟨h1,h2,h3,h4⟩:=h;rcases List.mem_cons.1 ht with rfl|ht
  .exact⟨h2,h3⟩
  .exact zHs h4 t ht
@[irreducible] def nestAll(s:ByteArray):List Tok×List Int×Int×Int×Int :=
 if(semiAll s).2.1=0/\(semiAll s).2.2=0 then
  match nestGo s (semiAll s).1 (semiAll s).1 0 [] (List.replicate (semiAll s).1.length 0) 0 with
  | .ok (p,m)=>((semiAll s).1,p,(m:Int),0,0)
  | .error (e,a)=>([],[],0,e,a)
 else([],[],0,(semiAll s).2.1,(semiAll s).2.2)
end Go.Proofs.YtfpjdpdmgceciaaGreatDoor
