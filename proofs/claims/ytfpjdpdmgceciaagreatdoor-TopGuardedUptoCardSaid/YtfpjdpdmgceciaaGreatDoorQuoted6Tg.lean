/- Layer 6: the program's Scan, Value and Quote, walked. -/
import Derived.Test.YtfpjdpdmgceciaaGreatDoorQuoted5Tg
import Derived.Laws.OwnMore
import Derived.Test.YtfpjdpdmgceciaaGreatDoorQuotedPTg
namespace Go.Proofs.YtfpjdpdmgceciaaGreatDoor
set_option maxRecDepth 100000
set_option maxHeartbeats 32000000
set_option linter.all false
open Go.RowKit
attribute [local irreducible] wpStill
@[irreducible] def scanPost(s:ByteArray)(at':Int)(w0:World)(e:Ending)(w':World):Prop :=
 e=.returned (.tuple #[.int .u8 (begun s at').1,.int .i64 (begun s at').2.1,.int .i64 (begun s at').2.2.2])/\Below w0.heap.size w0 w'
theorem zQf(s:ByteArray)(at':Int)(w0:World)(hT:Tabs w0)(hM:MaxC w0)(hs:s.size<=2147483647) :
  Calls Tryz.prog 215 #[.string s,.int .i64 at'] w0 (scanPost s at' w0):=by
 have CB:=Hd (zDu s at' w0 hT hM hs);have HQ:Hid (∀w',Below w0.heap.size w0 w'->scanPost s at' w0 (.returned (.tuple #[.int .u8 (begun s at').1,.int .i64 (begun s at').2.1,.int .i64 (begun s at').2.2.2])) w') :=
  Hd λw' h1=>by unfold scanPost;exact⟨rfl,h1⟩
 generalize scanPost s at' w0=Q at *;go_enter Tryz.func215,Tryz.ntmps215;go_wp2_with fail;refine CB.out.mono ?_;intro e w1 h1;unfold begunPost at h1;obtain⟨rfl,hb⟩:=h1;unfold begunVals;generalize begun s at'=q at *;go_wp2_with fail;exact HQ.out _ hb
@[irreducible] def valuePost(s:ByteArray)(w0:World)(e:Ending)(w':World):Prop :=
 e=.returned (.tuple #[.string (value s).1,.int .i64 (value s).2])/\Below w0.heap.size w0 w'
theorem zNk(s:ByteArray)(w0:World)(hT:Tabs w0)(hM:MaxC w0)(hs:s.size<=2147483647) :
  Calls Tryz.prog 78 #[.string s] w0 (valuePost s w0):=by
 have CB:=Hd (zDu s 0 w0 hT hM hs);have HQ:Hid (∀w' v err,Below w0.heap.size w0 w'->value s=(v,err)->valuePost s w0 (.returned (.tuple #[.string v,.int .i64 err])) w') :=
  Hd λw' v err h1 h2=>by unfold valuePost;rw[h2];exact⟨rfl,h1⟩
 generalize valuePost s w0=Q at *;have hV:value s=if(begun s 0).2.2.2=0/\(begun s 0).2.1=s.size then((begun s 0).2.2.1,0)else(ByteArray.empty,4):=by unfold value;rfl
 have HV:=Hd hV;clear hV;go_enter Tryz.func78,Tryz.ntmps78;go_wp2_with fail;refine CB.out.mono ?_;intro e w1 h1;unfold begunPost at h1;obtain⟨rfl,hb⟩:=h1;unfold begunVals;generalize begun s 0=q at *;obtain⟨k,t,v,err⟩:=q;have HB:=Hd hb;clear hb;by_cases h1:err=0
 .by_cases h2:t=s.size
  .go_wp2_with fail;exact HQ.out _ _ _ HB.out (by rw[HV.out,iP ⟨h1,h2⟩])
  .go_wp2_with fail;exact HQ.out _ _ _ HB.out (by rw[HV.out,iN (λh=>h2 h.2)];rfl)
 .go_wp2_with fail;exact HQ.out _ _ _ HB.out (by rw[HV.out,iN (λh=>h1 h.1)];rfl)
end Go.Proofs.YtfpjdpdmgceciaaGreatDoor
namespace Go.Proofs.YtfpjdpdmgceciaaGreatDoor
set_option linter.all false
theorem fU{s:ByteArray}{i:Nat}(h:¬i<s.size):body s i=none:=by unfold body;rw[dif_neg h]
theorem kU{s:ByteArray}{i:Nat}(h:i<s.size)(hc:bt s i=34):body s i=some (i+1,[]):=by unfold body;rw[dif_pos h,iP hc]
theorem kV{s:ByteArray}{i:Nat}(h:i<s.size)(hc:bt s i≠34):body s i=(item s i 34).bind λq=>(body s (i+q.1)).map λp=>(p.1,q.2++p.2):=by
 have:=zIm (mark:=34) (k:=0) (Or.inl rfl) h hc;unfold xY at this
 simpa using this
theorem zCe{s:ByteArray}{i:Nat}(h:¬i<s.size):raw s i=none:=by unfold raw;rw[iN h]
theorem gR{s:ByteArray}{i:Nat}(h:i<s.size)(hc:bt s i=96):raw s i=some (i+1,[]):=by unfold raw;rw[iP h,iP hc]
theorem gS{s:ByteArray}{i:Nat}(h:i<s.size)(hc:bt s i≠96):raw s i=(raw s (i+1)).map λp=>(p.1,(if bt s i=13 then[]else[(bt s i:Int)])++p.2):=by rw[raw,iP h,iN hc]
theorem gT{s:ByteArray}{i:Nat}(h:¬i<s.size):single s i=none:=by unfold single;rw[iN h]
theorem jJ{s:ByteArray}{i:Nat}(h:i<s.size)(hc:bt s i=39):single s i=none:=by unfold single;rw[iP h,iP hc]
theorem jK{s:ByteArray}{i:Nat}(h:i<s.size)(hc:bt s i≠39)(hit:item s i 39=none):single s i=none:=by unfold single;rw[iP h,iN hc,hit]
theorem vM{s:ByteArray}{i n:Nat}{l:List Int}(h:i<s.size)(hc:bt s i≠39)(hit:item s i 39=some (n,l)):single s i=if i+n<s.size/\bt s (i+n)=39 then some (i+n+1,l)else none:=by unfold single;rw[iP h,iN hc,hit]
theorem zCf(x s:ByteArray)(b:Int):∀(c i:Nat)(n:Int),num (x++s) b (x.size+i) c n=num s b i c n
 |0,i,n=>by rw[num,num]
 |c+1,i,n=>by
  rw[num,num,xC,ByteArray.size_append];by_cases h:i<s.size/\0<=base (bt s i)/\base (bt s i)<b
  .rw[iP h,iP ⟨Z,h.2⟩,show x.size+i+1=x.size+(i+1)by omega,zCf x s b c (i+1)]
  .rw[iN h,iN (λhh=>h ⟨Z,hh.2⟩)]
theorem zXk(x s:ByteArray)(i mark:Nat):esc (x++s) (x.size+i) mark=esc s i mark:=by
 unfold esc;rw[show x.size+i+1=x.size+(i+1)by omega,xC,show x.size+i+2=x.size+(i+2)by omega,zCf,zCf,zCf,ByteArray.size_append];by_cases h:s.size<=i+1
 .rw[iP h,iP Z]
 .rw[iN h,iN Z]
theorem zIp(x s:ByteArray)(i mark:Nat):item (x++s) (x.size+i) mark=item s i mark:=by
 unfold item;rw[xC,zXk,zEo];have e:∀n,(x++s).extract (x.size+i) (x.size+i+n)=s.extract i (i+n):=λn=>by
  apply ByteArray.ext;apply Array.ext';rw[yA,yA,data_append,show x.size+i+n-(x.size+i)=n by omega,show i+n-i=n by omega,size_data x,List.drop_append,List.drop_of_length_le Z,List.nil_append,Nat.add_sub_cancel_left]
 rw[e]
theorem zAo(x s:ByteArray)(i:Nat):body (x++s) (x.size+i)=(body s i).map λp=>(x.size+p.1,p.2):=by
 by_cases hi:i<s.size
 .by_cases hc:bt s i=34
  .rw[kU hi hc,kU (by rw[ByteArray.size_append];omega) (by rw[xC];exact hc)];rfl
  .rw[kV hi hc,kV (by rw[ByteArray.size_append];omega) (by rw[xC];exact hc),zIp];cases hit:item s i 34 with
   |none=>rfl
   |some q =>
    have hp:=jI hi hit;simp only[Option.bind_some];rw[show x.size+i+q.1=x.size+(i+q.1)by omega,zAo x s (i+q.1)];cases body s (i+q.1)<;>rfl
 .rw[fU hi,fU (by rw[ByteArray.size_append];omega)];rfl
termination_by s.size-i
decreasing_by omega
theorem zDw(s y:ByteArray)(b:Int):∀(c i:Nat)(n m:Int),num s b i c n=some m->num (s++y) b i c n=some m
 |0,i,n,m,h=>by rw[num]at h ⊢;exact h
 |c+1,i,n,m,h=>by
  rw[num]at h ⊢;by_cases hc:i<s.size/\0<=base (bt s i)/\base (bt s i)<b
  .rw[iP hc]at h;rw[yB s y i hc.1,iP ⟨by rw[ByteArray.size_append];omega,hc.2⟩];exact zDw s y b c (i+1) _ m h
  .rw[iN hc]at h;cases h
theorem yCa(s y:ByteArray)(i mark:Nat)(q:Nat×List Int)(h:esc s i mark=some q):esc (s++y) i mark=some q:=by
 have hsz:¬s.size<=i+1:=λhh=>by unfold esc at h;rw[iP hh]at h;cases h
 unfold esc at h ⊢;rw[iN hsz]at h;rw[iN (by rw[ByteArray.size_append];omega),yB s y (i+1) Z];split at h
 .rename_i h1;rw[iP h1];exact h
 .rename_i h1;rw[iN h1];split at h
  .rename_i h2;rw[iP h2];exact h
  .rename_i h2;rw[iN h2];split at h
   .rename_i h3;rw[iP h3];cases hn:num s 16 (i+2) 2 0 with
    |none=>rw[hn]at h;cases h
    |some v=>rw[hn]at h;rw[zDw s y 16 2 (i+2) 0 v hn];exact h
   .rename_i h3;rw[iN h3];split at h
    .rename_i h4;rw[iP h4];cases hn:num s 16 (i+2) (if bt s (i+1)=85 then 8 else 4) 0 with
     |none=>rw[hn]at h;cases h
     |some v=>rw[hn]at h;rw[zDw s y 16 _ (i+2) 0 v hn];exact h
    .rename_i h4;rw[iN h4];cases hn:num s 8 (i+1) 3 0 with
     |none=>rw[hn]at h;cases h
     |some v=>rw[hn]at h;rw[zDw s y 8 3 (i+1) 0 v hn];exact h
theorem zCg(s y:ByteArray)(i mark:Nat)(hi:i<s.size)(q:Nat×List Int)(h:item s i mark=some q):item (s++y) i mark=some q:=by
 unfold item at h ⊢;rw[yB s y i hi];split at h
 .rename_i h1;rw[iP h1];exact yCa s y i mark q h
 .rename_i h1;rw[iN h1];split at h
  .cases h
  .rename_i h2;rw[iN h2];split at h
   .rename_i h3;rw[iP h3];exact h
   .rename_i h3;rw[iN h3];split at h
    .cases h
    .rename_i h4;rw[zVr s y i hi h4,iN h4];have hw:=xH s i;have e:(s++y).extract i (i+(rd s i).2)=s.extract i (i+(rd s i).2):=by
      apply ByteArray.ext;apply Array.ext';rw[yA,yA,data_append,List.drop_append_of_le_length (by rw[<-size_data];omega),List.take_append_of_le_length (by rw[List.length_drop,<-size_data];omega)]
     rw[e];exact h
theorem zLl(s y:ByteArray)(i:Nat)(p:Nat×List Int)(h:body s i=some p):body (s++y) i=some p:=by
 by_cases hi:i<s.size
 .by_cases hc:bt s i=34
  .rw[kU hi hc]at h;rw[kU (by rw[ByteArray.size_append];omega) (by rw[yB s y i hi];exact hc)];exact h
  .rw[kV hi hc]at h;rw[kV (by rw[ByteArray.size_append];omega) (by rw[yB s y i hi];exact hc)];cases hit:item s i 34 with
   |none=>rw[hit]at h;cases h
   |some q =>
    have hp:=jI hi hit;rw[hit,Option.bind_some]at h;rw[zCg s y i 34 hi q hit,Option.bind_some];cases hb:body s (i+q.1)with
    |none=>rw[hb]at h;cases h
    |some p2 =>
     rw[hb]at h;rw[zLl s y (i+q.1) p2 hb];exact h
 .rw[fU hi]at h;cases h
termination_by s.size-i
decreasing_by omega
theorem zDx(m y:ByteArray)(b:Int):∀(c i:Nat)(n v:Int),i+c<=m.size->num (m++y) b i c n=some v->num m b i c n=some v
 |0,i,n,v,_,h=>by rw[num]at h ⊢;exact h
 |c+1,i,n,v,hl,h=>by
  rw[num]at h ⊢;rw[yB m y i Z]at h;by_cases hc:0<=base (bt m i)/\base (bt m i)<b
  .rw[iP ⟨by rw[ByteArray.size_append];omega,hc⟩]at h;rw[iP ⟨Z,hc⟩];exact zDx m y b c (i+1) _ v Z h
  .rw[iN (λhh=>hc hh.2)]at h;cases h
theorem yCb(m y:ByteArray)(i mark n:Nat)(l:List Int)(h:esc (m++y) i mark=some (n,l))(hl:i+n<=m.size):esc m i mark=some (n,l):=by
 have hp:=(zVb h).1;unfold esc at h ⊢;rw[iN (by rw[ByteArray.size_append];omega),yB m y (i+1) Z]at h;rw[iN Z];split at h
 .rename_i h1;rw[iP h1];exact h
 .rename_i h1;rw[iN h1];split at h
  .rename_i h2;rw[iP h2];exact h
  .rename_i h2;rw[iN h2];split at h
   .rename_i h3;rw[iP h3];cases hn:num (m++y) 16 (i+2) 2 0 with
    |none=>rw[hn]at h;cases h
    |some v =>
     rw[hn]at h;have e:n=4:=by cases h;rfl
     rw[zDx m y 16 2 (i+2) 0 v Z hn];exact h
   .rename_i h3;rw[iN h3];split at h
    .rename_i h4;rw[iP h4];cases hn:num (m++y) 16 (i+2) (if bt m (i+1)=85 then 8 else 4) 0 with
     |none=>rw[hn]at h;cases h
     |some v =>
      rw[hn]at h;have e:n=2+(if bt m (i+1)=85 then 8 else 4):=by
       rw[Option.bind_some]at h;split at h
       .cases h;rfl
       .cases h
      rw[zDx m y 16 _ (i+2) 0 v Z hn];exact h
    .rename_i h4;rw[iN h4];cases hn:num (m++y) 8 (i+1) 3 0 with
     |none=>rw[hn]at h;cases h
     |some v =>
      rw[hn]at h;have e:n=4:=by
       rw[Option.bind_some]at h;split at h
       .cases h
       .cases h;rfl
      rw[zDx m y 8 3 (i+1) 0 v Z hn];exact h
theorem zVc(s:ByteArray)(i e:Nat)(l:List Int)(h:raw s i=some (e,l)):i+1<=e/\e<=s.size:=by
 by_cases hi:i<s.size
 .by_cases hc:bt s i=96
  .rw[gR hi hc]at h;cases h;omega
  .rw[gS hi hc]at h;cases hb:raw s (i+1)with
   |none=>rw[hb]at h;cases h
   |some p =>
    obtain⟨e2,l2⟩:=p;rw[hb]at h;have:=zVc s (i+1) e2 l2 hb;simp only[Option.map_some,Option.some.injEq,Prod.mk.injEq]at h;omega
 .rw[zCe hi]at h;cases h
termination_by s.size-i
decreasing_by omega
theorem zQg(s:ByteArray)(i e:Nat)(l:List Int)(h:body s i=some (e,l)):i+1<=e/\e<=s.size:=by
 by_cases hi:i<s.size
 .by_cases hc:bt s i=34
  .rw[kU hi hc]at h;cases h;omega
  .rw[kV hi hc]at h;cases hit:item s i 34 with
   |none=>rw[hit]at h;cases h
   |some q =>
    obtain⟨n,l1⟩:=q;have hp:=jI hi hit;rw[hit,Option.bind_some]at h;cases hb:body s (i+n)with
    |none=>rw[hb]at h;cases h
    |some p =>
     obtain⟨e2,l2⟩:=p;rw[hb]at h;have:=zQg s (i+n) e2 l2 hb;simp only[Option.map_some,Option.some.injEq,Prod.mk.injEq]at h;omega
 .rw[fU hi]at h;cases h
termination_by s.size-i
decreasing_by omega
theorem zTb(s:ByteArray)(i e:Nat)(l:List Int)(h:single s i=some (e,l)):i+1<=e/\e<=s.size:=by
 by_cases hi:i<s.size
 .by_cases hc:bt s i=39
  .rw[jJ hi hc]at h;cases h
  .cases hit:item s i 39 with
   |none=>rw[jK hi hc hit]at h;cases h
   |some q =>
    obtain⟨n,l1⟩:=q;have hp:=jI hi hit;rw[vM hi hc hit]at h;split at h
    .simp only[Option.some.injEq,Prod.mk.injEq]at h;omega
    .cases h
 .rw[gT hi]at h;cases h
theorem zLm(m y:ByteArray)(i mark n:Nat)(l:List Int)(hi:i<m.size)(h:item (m++y) i mark=some (n,l))(hl:i+n<=m.size):item m i mark=some (n,l):=by
 unfold item at h ⊢;rw[yB m y i hi]at h;split at h
 .rename_i h1;rw[iP h1];exact yCb m y i mark n l h hl
 .rename_i h1;rw[iN h1];split at h
  .cases h
  .rename_i h2;rw[iN h2];split at h
   .rename_i h3;rw[iP h3];exact h
   .rename_i h3;rw[iN h3];split at h
    .cases h
    .rename_i h4;have hn:(rd (m++y) i).2=n:=by cases h;rfl
     have hr:=zNl m y i h4 Z;rw[hr,iN h4];have e:(m++y).extract i (i+(rd (m++y) i).2)=m.extract i (i+(rd (m++y) i).2):=by
      apply ByteArray.ext;apply Array.ext';rw[yA,yA,data_append,List.drop_append_of_le_length (by rw[<-size_data];omega),List.take_append_of_le_length (by rw[List.length_drop,<-size_data];omega)]
     rw[<-e];exact h
theorem zIq(a u u':ByteArray)(i:Nat)(l:List Int)(h:body (a++u) i=some (a.size+1,l)) :
  bt (a++u) a.size=34/\i<=a.size/\body (a++u') i=(body (a++u') a.size).map λp=>(p.1,l++p.2):=by
 by_cases hi:i<(a++u).size
 .by_cases hc:bt (a++u) i=34
  .rw[kU hi hc]at h;cases h
   refine⟨hc,nR _,?_⟩;cases body (a++u') a.size<;>rfl
  .rw[kV hi hc]at h;cases hit:item (a++u) i 34 with
   |none=>rw[hit]at h;cases h
   |some q =>
    obtain⟨n,l1⟩:=q;have hp:=jI hi hit;rw[hit,Option.bind_some]at h;cases hb:body (a++u) (i+n)with
    |none=>rw[hb]at h;cases h
    |some p2 =>
     obtain⟨e2,l2⟩:=p2;rw[hb]at h;simp only[Option.map_some,Option.some.injEq,Prod.mk.injEq]at h;obtain⟨rfl,rfl⟩:=h;obtain⟨g1,g2,g3⟩:=zIq a u u' (i+n) l2 hb;have hia:i<a.size:=Z;refine⟨g1,Z,?_⟩;rw[yB a u i hia]at hc;have h3:=zCg a u' i 34 hia (n,l1) (zLm a u i 34 n l1 hia hit g2);rw[kV (by rw[ByteArray.size_append];omega) (by rw[yB a u' i hia];exact hc),h3,Option.bind_some,g3];cases body (a++u') a.size with
     |none=>rfl
     |some p=>simp
 .rw[fU hi]at h;cases h
termination_by (a++u).size-i
decreasing_by omega
theorem zNm(a u u':ByteArray)(i:Nat)(l:List Int)(h:raw (a++u) i=some (a.size+1,l)) :
  bt (a++u) a.size=96/\i<=a.size/\raw (a++u') i=(raw (a++u') a.size).map λp=>(p.1,l++p.2):=by
 by_cases hi:i<(a++u).size
 .by_cases hc:bt (a++u) i=96
  .rw[gR hi hc]at h;cases h
   refine⟨hc,nR _,?_⟩;cases raw (a++u') a.size<;>rfl
  .rw[gS hi hc]at h;cases hb:raw (a++u) (i+1)with
   |none=>rw[hb]at h;cases h
   |some p2 =>
    obtain⟨e2,l2⟩:=p2;rw[hb]at h;simp only[Option.map_some,Option.some.injEq,Prod.mk.injEq]at h;obtain⟨rfl,rfl⟩:=h;obtain⟨g1,g2,g3⟩:=zNm a u u' (i+1) l2 hb;have hia:i<a.size:=Z;refine⟨g1,Z,?_⟩;rw[yB a u i hia]at hc;rw[gS (by rw[ByteArray.size_append];omega) (by rw[yB a u' i hia];exact hc),g3,yB a u i hia,yB a u' i hia];cases raw (a++u') a.size with
    |none=>rfl
    |some p=>simp
 .rw[zCe hi]at h;cases h
termination_by (a++u).size-i
decreasing_by omega
theorem zCh(x s:ByteArray)(i:Nat):raw (x++s) (x.size+i)=(raw s i).map λp=>(x.size+p.1,p.2):=by
 by_cases hi:i<s.size
 .by_cases hc:bt s i=96
  .rw[gR hi hc,gR (by rw[ByteArray.size_append];omega) (by rw[xC];exact hc)];rfl
  .rw[gS hi hc,gS (by rw[ByteArray.size_append];omega) (by rw[xC];exact hc),show x.size+i+1=x.size+(i+1)by omega,zCh x s (i+1),xC];cases raw s (i+1)<;>rfl
 .rw[zCe hi,zCe (by rw[ByteArray.size_append];omega)];rfl
termination_by s.size-i
decreasing_by omega
theorem zDy(x s:ByteArray)(i:Nat):single (x++s) (x.size+i)=(single s i).map λp=>(x.size+p.1,p.2):=by
 by_cases hi:i<s.size
 .have hi2:x.size+i<(x++s).size:=by rw[ByteArray.size_append];omega
  by_cases hc:bt s i=39
  .rw[jJ hi hc,jJ hi2 (by rw[xC];exact hc)];rfl
  .have hc2:bt (x++s) (x.size+i)≠39:=by rw[xC];exact hc
   have e:=zIp x s i 39;cases hit:item s i 39 with
   |none =>
    rw[hit]at e;rw[jK hi hc hit,jK hi2 hc2 e];rfl
   |some q =>
    obtain⟨n,l⟩:=q;rw[hit]at e;rw[vM hi hc hit,vM hi2 hc2 e,show x.size+i+n=x.size+(i+n)by omega,xC,ByteArray.size_append];by_cases h:i+n<s.size/\bt s (i+n)=39
    .rw[iP h,iP ⟨Z,h.2⟩];rfl
    .rw[iN h,iN (λhh=>h ⟨Z,hh.2⟩)];rfl
 .rw[gT hi,gT (by rw[ByteArray.size_append];omega)];rfl
theorem zIr(a u u':ByteArray)(i:Nat)(l:List Int)(h:single (a++u) i=some (a.size+1,l)) :
  bt (a++u) a.size=39/\i<=a.size/\single (a++u') i=if u'.size≠0/\bt u' 0=39 then some (a.size+1,l)else none:=by
 by_cases hi:i<(a++u).size
 .by_cases hc:bt (a++u) i=39
  .rw[jJ hi hc]at h;cases h
  .cases hit:item (a++u) i 39 with
   |none=>rw[jK hi hc hit]at h;cases h
   |some q =>
    obtain⟨n,l1⟩:=q;have hp:=jI hi hit;rw[vM hi hc hit]at h;split at h
    .rename_i h2;simp only[Option.some.injEq,Prod.mk.injEq]at h;obtain⟨h3,rfl⟩:=h;have hn:i+n=a.size:=Z;have hia:i<a.size:=Z;rw[yB a u i hia]at hc;have g:=zCg a u' i 39 hia (n,l1) (zLm a u i 39 n l1 hia hit Z);refine⟨by rw[<-hn];exact h2.2,Z,?_⟩;rw[vM (by rw[ByteArray.size_append];omega) (by rw[yB a u' i hia];exact hc) g,hn];have e:=xC a u' 0;rw[Nat.add_zero]at e;rw[e,ByteArray.size_append];by_cases h5:u'.size≠0/\bt u' 0=39
     .rw[iP h5,iP ⟨Z,h5.2⟩]
     .rw[iN h5,iN (λhh=>h5 ⟨Z,hh.2⟩)]
    .cases h
 .rw[gT hi]at h;cases h
theorem vE{s:ByteArray}{at':Int}(h0:0<=at')(h1:at'<s.size)(hm:isMark (bt s at'.toNat)=true):begun s at'=begunAt s at'.toNat:=by
 unfold begun;rw[iN Z,iP hm]
theorem zIs{s:ByteArray}{at' k e:Int}{v:ByteArray}(h:begun s at'=(k,e,v,0)):0<=at'/\at'<s.size/\isMark (bt s at'.toNat)=true:=by
 unfold begun at h;split at h
 .simp at h
 .split at h
  .exact⟨Z,Z,by assumption⟩
  .simp at h
theorem zXl(s:ByteArray)(at':Int)(h:(begun s at').2.2.2≠0):(begun s at').1=0/\(begun s at').2.1=0:=by
 unfold begun at h ⊢;split
 .exact⟨rfl,rfl⟩
 .rename_i h1;rw[iN h1]at h;split
  .rename_i h2;rw[iP h2]at h;unfold begunAt at h ⊢;split
   .rename_i h3;rw[iP h3]at h;cases hr:raw s (at'.toNat+1)with
    |none=>exact⟨rfl,rfl⟩
    |some p=>rw[hr]at h;exact absurd rfl h
   .rename_i h3;rw[iN h3]at h;split
    .rename_i h4;rw[iP h4]at h;cases hr:body s (at'.toNat+1)with
     |none=>exact⟨rfl,rfl⟩
     |some p=>rw[hr]at h;exact absurd rfl h
    .rename_i h4;rw[iN h4]at h;cases hr:single s (at'.toNat+1)with
     |none=>exact⟨rfl,rfl⟩
     |some p=>rw[hr]at h;exact absurd rfl h
  .exact⟨rfl,rfl⟩
theorem yCc{s v:ByteArray}(h:value s=(v,0)):∃k,begun s 0=(k,(s.size:Int),v,0):=by
 unfold value at h;split at h
 .rename_i h1;generalize begun s 0=q at *;obtain⟨k,e,v',err⟩:=q;simp only[]at h1 h;obtain⟨rfl,rfl⟩:=h1;cases h
  exact⟨k,rfl⟩
 .simp at h
theorem zIt{s v:ByteArray}{k:Int}(h:begun s 0=(k,(s.size:Int),v,0)):value s=(v,0):=by
 unfold value;rw[h,iP ⟨rfl,rfl⟩]
theorem zEz{s:ByteArray}(h:(begun s 0).2.2.2=4):value s=(ByteArray.empty,4):=by
 unfold value;rw[iN (λhh=>by rw[h]at hh;exact absurd hh.1 V)]
theorem jL(s:ByteArray)(at' k e:Int)(v:ByteArray)(h:begun s at'=(k,e,v,0)) :
  ∃i n:Nat,at'=i/\e=n/\i+2<=n/\n<=s.size/\bt s i=bt s (n-1)/\value (s.extract i n)=(v,0)/\value (s.extract i (n-1))=(ByteArray.empty,4)/\((k=6/\bt s i=39)\/(k=7/\bt s i≠39)):=by
 obtain⟨h0,h1,hm⟩:=zIs h;rw[vE h0 h1 hm]at h;obtain⟨i,rfl⟩:∃i:Nat,at'=i:=⟨at'.toNat,Z⟩;rw[Int.toNat_natCast]at h hm;have hi:i<s.size:=Z
 -- cut the text: x, the marked text without its last mark, the rest
 have hx:=zTa s i Z;have zx:(s.extract 0 i).size=i:=by rw[ByteArray.size_extract];omega
 have key:∀n:Nat,i+2<=n->n<=s.size->∃m u,s.extract i s.size=m++u/\s.extract i (n-1)=m/\m.size=n-1-i/\u.size=s.size-(n-1)/\s.extract i n=m++s.extract (n-1) n/\(s.extract (n-1) n).size=1/\bt (s.extract (n-1) n) 0=bt s (n-1):=by
  intro n h2 h3;refine⟨s.extract i (n-1),s.extract (n-1) s.size,(jP s i (n-1) s.size Z Z).symm,rfl,by rw[ByteArray.size_extract];omega,by rw[ByteArray.size_extract];omega,(jP s i (n-1) n Z Z).symm,by rw[ByteArray.size_extract];omega,?_⟩;unfold bt;rw[get!_extract s (n-1) n 0 Z h3,Nat.add_zero]
 generalize s.extract 0 i=x at *;have hbt:bt (s.extract i s.size) 0=bt s i:=by
  have:=xC x (s.extract i s.size) 0;rw[hx,zx,Nat.add_zero]at this;exact this.symm
 have hbn:∀j,bt s (i+j)=bt (s.extract i s.size) j:=by
  intro j;have:=xC x (s.extract i s.size) j;rw[hx,zx]at this;exact this
 have hsx:(s.extract i s.size).size=s.size-i:=by rw[ByteArray.size_extract];omega
 unfold begunAt at h;by_cases h96:bt s i=96
 .rw[iP h96]at h;cases hr:raw s (i+1)with
  |none=>rw[hr]at h;simp at h
  |some p =>
   obtain⟨n,l⟩:=p;rw[hr]at h;simp only[Prod.mk.injEq]at h;obtain⟨rfl,rfl,rfl,_⟩:=h;have rr:=zCh x (s.extract i s.size) 1;rw[hx,zx,hr]at rr;cases hr2:raw (s.extract i s.size) 1 with
   |none=>rw[hr2]at rr;cases rr
   |some p2 =>
    obtain⟨n2,l2⟩:=p2;rw[hr2]at rr;simp only[Option.map_some,Option.some.injEq,Prod.mk.injEq]at rr;obtain⟨rfl,rfl⟩:=rr;have hlim:=zVc _ _ _ _ hr2;obtain⟨m,u,e1,e2,e3,e4,e5,e6,e7⟩:=key (i+n2) Z Z;rw[e1]at hr2;have en:n2=m.size+1:=Z;rw[en]at hr2;obtain⟨g1,g2,g3⟩:=zNm m u (s.extract (i+n2-1) (i+n2)) 1 l hr2;obtain⟨_,_,g4⟩:=zNm m u ByteArray.empty 1 l hr2;have hlast:bt s (i+n2-1)=96:=by
     rw[show i+n2-1=i+m.size by omega,hbn,e1];exact g1
    have r3:=zCh m (s.extract (i+n2-1) (i+n2)) 0;rw[Nat.add_zero,gR (s:=s.extract (i+n2-1) (i+n2)) (i:=0) Z (by rw[e7];exact hlast)]at r3;rw[r3]at g3;have m0:bt m 0=96:=by rw[<-yB m u 0 Z,<-e1,hbt];exact h96
    refine⟨i,i+n2,rfl,rfl,Z,Z,by rw[hlast,h96],?_,?_,Or.inr ⟨rfl,Z⟩⟩
    .rw[e5];apply zIt (k:=7);rw[vE Z (by rw[ByteArray.size_append];omega) (by rw[show(0:Int).toNat=0 by rfl,yB m _ 0 Z,m0];rfl)];unfold begunAt;rw[show(0:Int).toNat=0 by rfl,yB m _ 0 Z,iP m0,Nat.zero_add,g3,ByteArray.size_append,e6];simp
    .rw[e2];apply zEz;rw[vE Z Z (by rw[show(0:Int).toNat=0 by rfl,m0];rfl)];unfold begunAt;rw[ByteArray.append_empty]at g4;rw[show(0:Int).toNat=0 by rfl,iP m0,Nat.zero_add,g4,zCe Z];rfl
 .rw[iN h96]at h;by_cases h34:bt s i=34
  .rw[iP h34]at h;cases hr:body s (i+1)with
   |none=>rw[hr]at h;simp at h
   |some p =>
    obtain⟨n,l⟩:=p;rw[hr]at h;simp only[Prod.mk.injEq]at h;obtain⟨rfl,rfl,rfl,_⟩:=h;have rr:=zAo x (s.extract i s.size) 1;rw[hx,zx,hr]at rr;cases hr2:body (s.extract i s.size) 1 with
    |none=>rw[hr2]at rr;cases rr
    |some p2 =>
     obtain⟨n2,l2⟩:=p2;rw[hr2]at rr;simp only[Option.map_some,Option.some.injEq,Prod.mk.injEq]at rr;obtain⟨rfl,rfl⟩:=rr;have hlim:=zQg _ _ _ _ hr2;obtain⟨m,u,e1,e2,e3,e4,e5,e6,e7⟩:=key (i+n2) Z Z;rw[e1]at hr2;have en:n2=m.size+1:=Z;rw[en]at hr2;obtain⟨g1,g2,g3⟩:=zIq m u (s.extract (i+n2-1) (i+n2)) 1 l hr2;obtain⟨_,_,g4⟩:=zIq m u ByteArray.empty 1 l hr2;have hlast:bt s (i+n2-1)=34:=by
      rw[show i+n2-1=i+m.size by omega,hbn,e1];exact g1
     have r3:=zAo m (s.extract (i+n2-1) (i+n2)) 0;rw[Nat.add_zero,kU (s:=s.extract (i+n2-1) (i+n2)) (i:=0) Z (by rw[e7];exact hlast)]at r3;rw[r3]at g3;have m0:bt m 0=34:=by rw[<-yB m u 0 Z,<-e1,hbt];exact h34
     have m96:¬bt m 0=96:=Z;refine⟨i,i+n2,rfl,rfl,Z,Z,by rw[hlast,h34],?_,?_,Or.inr ⟨rfl,Z⟩⟩
     .rw[e5];apply zIt (k:=7);rw[vE Z (by rw[ByteArray.size_append];omega) (by rw[show(0:Int).toNat=0 by rfl,yB m _ 0 Z,m0];rfl)];unfold begunAt;rw[show(0:Int).toNat=0 by rfl,yB m _ 0 Z,iN m96,iP m0,Nat.zero_add,g3,ByteArray.size_append,e6];simp
     .rw[e2];apply zEz;rw[vE Z Z (by rw[show(0:Int).toNat=0 by rfl,m0];rfl)];unfold begunAt;rw[ByteArray.append_empty]at g4;rw[show(0:Int).toNat=0 by rfl,iN m96,iP m0,Nat.zero_add,g4,fU Z];rfl
  .rw[iN h34]at h;have h39:bt s i=39:=by
    unfold isMark at hm;simp at hm;omega
   cases hr:single s (i+1)with
   |none=>rw[hr]at h;simp at h
   |some p =>
    obtain⟨n,l⟩:=p;rw[hr]at h;simp only[Prod.mk.injEq]at h;obtain⟨rfl,rfl,rfl,_⟩:=h;have rr:=zDy x (s.extract i s.size) 1;rw[hx,zx,hr]at rr;cases hr2:single (s.extract i s.size) 1 with
    |none=>rw[hr2]at rr;cases rr
    |some p2 =>
     obtain⟨n2,l2⟩:=p2;rw[hr2]at rr;simp only[Option.map_some,Option.some.injEq,Prod.mk.injEq]at rr;obtain⟨rfl,rfl⟩:=rr;have hlim:=zTb _ _ _ _ hr2;obtain⟨m,u,e1,e2,e3,e4,e5,e6,e7⟩:=key (i+n2) Z Z;rw[e1]at hr2;have en:n2=m.size+1:=Z;rw[en]at hr2;obtain⟨g1,g2,g3⟩:=zIr m u (s.extract (i+n2-1) (i+n2)) 1 l hr2;obtain⟨_,_,g4⟩:=zIr m u ByteArray.empty 1 l hr2;have hlast:bt s (i+n2-1)=39:=by
      rw[show i+n2-1=i+m.size by omega,hbn,e1];exact g1
     rw[iP ⟨Z,by rw[e7];exact hlast⟩]at g3;have m0:bt m 0=39:=by rw[<-yB m u 0 Z,<-e1,hbt];exact h39
     have m96:¬bt m 0=96:=Z;have m34:¬bt m 0=34:=Z;refine⟨i,i+n2,rfl,rfl,Z,Z,by rw[hlast,h39],?_,?_,Or.inl ⟨rfl,h39⟩⟩
     .rw[e5];apply zIt (k:=6);rw[vE Z (by rw[ByteArray.size_append];omega) (by rw[show(0:Int).toNat=0 by rfl,yB m _ 0 Z,m0];rfl)];unfold begunAt;rw[show(0:Int).toNat=0 by rfl,yB m _ 0 Z,iN m96,iN m34,Nat.zero_add,g3,ByteArray.size_append,e6]
     .rw[e2];apply zEz;rw[vE Z Z (by rw[show(0:Int).toNat=0 by rfl,m0];rfl)];unfold begunAt;rw[ByteArray.append_empty,iN (λhh=>hh.1 rfl)]at g4;rw[show(0:Int).toNat=0 by rfl,iN m96,iN m34,Nat.zero_add,g4]
end Go.Proofs.YtfpjdpdmgceciaaGreatDoor
