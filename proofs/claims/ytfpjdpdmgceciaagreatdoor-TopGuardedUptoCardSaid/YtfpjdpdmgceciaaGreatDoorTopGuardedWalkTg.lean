/- The statement TopGuarded, walked: the call returns true. -/
import Derived.Test.YtfpjdpdmgceciaaGreatDoorCoreTg
import Derived.Test.YtfpjdpdmgceciaaGreatDoorLxZTg
import Derived.Test.YtfpjdpdmgceciaaGreatDoorLxSTg
import Derived.Test.YtfpjdpdmgceciaaGreatDoorSwapLTg
import Derived.Test.YtfpjdpdmgceciaaGreatDoorGtPTg
import Derived.Test.YtfpjdpdmgceciaaGreatDoorRnKTg
namespace Go.Proofs.YtfpjdpdmgceciaaGreatDoor
set_option maxRecDepth 100000
set_option maxHeartbeats 32000000
set_option linter.all false
attribute [local irreducible] Calls
attribute [local irreducible] wpStill
open Go.RowKit
abbrev flO(f a:Int):Obj:=.cells #[.int .i64 f,.int .i64 a] 25 (0,0)
def PlOK(l:List Prt)(x:Int):Prop:=∃i:Nat,x=(i:Int)/\0<i/\l[i]?=some (26,0,⟨#[120]⟩)/\¬SelAt l i
@[irreducible] def tgRel(l:List Prt)(w:World)(pv iv:Value)(wr:World):Prop:=∃(k:Nat) (p:List Int),iv=.int .i64 (k:Int)/\1<=k/\k<=l.length/\(∃a n c,pv=.slice a n c)/\wr.ownsRow w.heap.size 3 1 pv p.length (p.map (Value.int .i64))/\p.length<=k/\(∀x∈p,PlOK l x)/\Below w.heap.size w wr
abbrev TgQ(w:World)(e:Ending)(w':World):Prop:=e=.returned (.bool true)/\Below w.heap.size w w'
structure TgL(s:ByteArray)(l:List Prt)(x:ExT):Prop where
 r:x.srt=1
 e:x.flat=l
 g:∀p∈l,GW p
 c:zT l=true/\∀p∈l,partC p=true
 n:l.length<=49
theorem TgL.of{s:ByteArray}(hs:s.size<=400){l:List Prt}(hp:∀p∈l,p.1<256)(h1:X1 l)(h2:(nestAll s).2.2.2=(0,0)/\∀p∈l,LW s (nestAll s).1 p)(h3:(zT l=true/\∀p∈l,partC p=true)/\simL l/\l.length<50):∃x,TgL s l x:=by
 obtain⟨x,e1,e2⟩:=h1 h3.2.1;have hc:=h3.1;exact⟨x,e1,e2,λp h=>GW.of hs h2.1 (hp p h) (h2.2 p h) (hc.2 p h),h3.1,Z⟩
theorem yIl{s t:ByteArray}{l m:List Prt}{x y:ExT}(hx:TgL s l x)(hy:TgL t m y){u:Int}(hu:PlOK l u):∃(i:Nat) (z:ExT),u=(i:Int)/\i<l.length/\z.srt=1/\swapZ l u 1 m=(z.flat,0)/\z.flat.length<=97/\SmallL z.flat/\zT z.flat=true/\(guardZ z.flat (List.replicate z.flat.length 0)).map (·.1)=z.grd.flat/\(z.grd.flat.length<=500->FitX z.grd):=by
 obtain⟨i,rfl,h0,h1,h2⟩:=hu;have hil:=ExT.lt_some h1;obtain⟨hxr,rfl,hxg,_,hxn⟩:=hx;obtain⟨hyr,rfl,hyg,_,hyn⟩:=hy;obtain⟨z,g1,g2,g3⟩:=yIn hxr hyr h0 h1 h2;have hG:∀p∈z.flat,GW p:=λp hp=>by
  rw[g3]at hp;unfold sub at hp;rcases List.mem_append.1 hp with hp|hp
  .exact hxg p (List.mem_of_mem_take hp)
  .rcases List.mem_append.1 hp with hp|hp
   .exact hyg p hp
   .exact hxg p (List.mem_of_mem_drop hp)
 have hL:z.flat.length<=97:=by
  rw[g3];unfold sub;simp only[lA,List.length_take,List.length_drop];omega
 refine⟨i,z,rfl,hil,g1,g2,hL,⟨Z,λp hp=>⟨(hG p hp).1,by have:=(hG p hp).2.2.2.2;omega⟩⟩,?_,ExT.guard_x (fr:=_) g1,λh=>yGg g1 hG hL h⟩;have hr:=ExT.rows_x z Z xJ;rw[ExT.one_sizes (Or.inl g1),List.append_nil,List.append_nil]at hr;exact xK.2 hr
theorem TopGuarded_walk(w:World)(s:ByteArray)(hs:s.size<=1048576)(t:ByteArray)(ht:t.size<=1048576)(a0:Int)(ha0:-9223372036854775808<=a0/\a0<=9223372036854775807)(hT:Tabs w)(hM:MaxC w) :
  Calls Tryz.prog 3 #[.string s,.string t,.int .i64 a0] w (TgQ w):=by
 have HQ:Hid (∀w',Below w.heap.size w w'->TgQ w (.returned (.bool true)) w'):=Hd λw' h=>by exact⟨rfl,h⟩
 generalize TgQ w=Q at *;have CF:=Hd (λw' (hb:Below w.heap.size w w')=>zYq w' (hT.below hb) (hM.below hb));have C1:=Hd (zDt s Z 2 rfl w hT hM .none);have C2:=Hd (λw' (hb:Below w.heap.size w w')=>zDt t Z 2 rfl w' (hT.below hb) (hM.below hb) .none);have HT:=Hd hT;have HM:=Hd hM;clear hT hM;go_enter Tryz.func3,Tryz.ntmps3;go_wp2_with fail;refine C1.out.mono ?_;intro e w1 h1;unfold TermQ at h1;obtain⟨hb1,vl,l,f,a,rfl,hlr,hl,-,hX1,hW1⟩:=h1;have HX1:=Hd (hX1 rfl);have HW1:=Hd hW1;have HL:=Hd hl;have hB1:Below w.heap.size w (w1.alloc (flO f a)):=hb1.alloc hb1.size _;have HB1:=Hd hB1;have HLR1:Hid (zG (w1.alloc (flO f a)) vl l):=Hd (hlr.below ((bR _ _).alloc (nR _) _));have HF1:Hid ((w1.alloc (flO f a)).heap[w1.heap.size]?=some (flO f a)):=Hd (heap_alloc_new _ _);have hlt1:w1.heap.size<(w1.alloc (flO f a)).heap.size:=Ob;have HZ1:=Hd hb1.size;obtain⟨al,cl,rfl,hcl⟩:=hlr.slice;clear hb1 hlr hl hX1 hW1 hB1 C1;go_wp2_with fail;generalize w1.alloc (flO f a)=W1 at *;refine(C2.out W1 HB1.out).mono ?_;intro e w2 h2;unfold TermQ at h2;obtain⟨hb2,vm,m,f2,a2,rfl,hmr,hm,-,hX2,hW2⟩:=h2;have HX2:=Hd (hX2 rfl);have HW2:=Hd hW2;have HM2:=Hd hm;have hB2:Below W1.heap.size W1 (w2.alloc (flO f2 a2)):=hb2.alloc hb2.size _;have HB2:=Hd (zD HB1.out hB2);have HLR2:=Hd (HLR1.out.below hB2);have HMR2:Hid (zG (w2.alloc (flO f2 a2)) vm m):=Hd (hmr.below ((bR _ _).alloc (nR _) _));have HF2:Hid ((w2.alloc (flO f2 a2)).heap[w2.heap.size]?=some (flO f2 a2)):=Hd (heap_alloc_new _ _);have HF1':Hid ((w2.alloc (flO f2 a2)).heap[w1.heap.size]?=some (flO f a)):=Hd (keeps hB2 HF1.out);obtain⟨am,cm,rfl,hcm⟩:=hmr.slice;have hne:w1.heap.size<w2.heap.size:=by have:=hb2.size;omega
 have hF:=keeps hb2 HF1.out;have d0:w2.cell? ⟨w1.heap.size,0,none⟩=some (.int .i64 f):=by unfold World.cell?;rw[hF];rfl
 have d1:w2.cell? ⟨w1.heap.size,1,none⟩=some (.int .i64 a):=by unfold World.cell?;rw[hF];rfl
 have hne':w1.heap.size≠w2.heap.size:=Z;have c0:(w2.alloc (flO f2 a2)).cell? ⟨w1.heap.size,0,none⟩=some (.int .i64 f):=by unfold World.cell?;rw[HF1'.out];rfl
 have c1:(w2.alloc (flO f2 a2)).cell? ⟨w1.heap.size,1,none⟩=some (.int .i64 a):=by unfold World.cell?;rw[HF1'.out];rfl
 clear hb2 hmr hm hX2 hW2 hB2 C2 HLR1 HF1 hF;go_wp2_with fail;generalize w2.alloc (flO f2 a2)=W2 at *;refine(zJn f a W2).mono ?_;rintro e w3 ⟨rfl,hb3⟩;have HB3:=Hd (zD HB2.out hb3);have HLR3:=Hd (HLR2.out.below hb3);have HMR3:=Hd (HMR2.out.below hb3);have HF3:Hid (w3.heap[w2.heap.size]?=some (flO f2 a2)):=Hd (keeps hb3 HF2.out);clear hb3 c0 c1 HB2 HLR2 HMR2 HF1' HF2;cases hf:(f==0&&a==0)with
 |false =>
  go_wp2_with fail;refine(CF.out w3 HB3.out).mono ?_;rintro e wZ ⟨rfl,hbZ⟩;have HX:=Hd (HQ.out wZ (zD HB3.out hbZ));clear hbZ;go_wp2_with fail;exact HX.out
 |true =>
 have c0:w3.cell? ⟨w2.heap.size,0,none⟩=some (.int .i64 f2):=by simp[World.cell?,HF3.out]
 have c1:w3.cell? ⟨w2.heap.size,1,none⟩=some (.int .i64 a2):=by simp[World.cell?,HF3.out]
 go_wp2_with fail;refine(zJn f2 a2 w3).mono ?_;rintro e w4 ⟨rfl,hb4⟩;have HB4:=Hd (zD HB3.out hb4);have HLR4:=Hd (HLR3.out.below hb4);have HMR4:=Hd (HMR3.out.below hb4);have HA4:=Hd (CF.out w4 HB4.out);clear hb4 c0 c1 HB3 HLR3 HMR3 HF3;cases hf2:(f2==0&&a2==0)with
 |false =>
  go_wp2_with fail;refine HA4.out.mono ?_;rintro e wZ ⟨rfl,hbZ⟩;have HX:=Hd (HQ.out wZ (zD HB4.out hbZ));clear hbZ;go_wp2_with fail;exact HX.out
 |true =>
 by_cases hs4:s.size<=400
 case neg =>
  have hs5:(400:Int)<s.size:=Z;go_wp2_with fail;refine HA4.out.mono ?_;rintro e wZ ⟨rfl,hbZ⟩;have HX:=Hd (HQ.out wZ (zD HB4.out hbZ));clear hbZ;go_wp2_with fail;exact HX.out
 have hs5:¬(400:Int)<s.size:=Z;by_cases ht4:t.size<=400
 case neg =>
  have ht5:(400:Int)<t.size:=Z;go_wp2_with fail;refine HA4.out.mono ?_;rintro e wZ ⟨rfl,hbZ⟩;have HX:=Hd (HQ.out wZ (zD HB4.out hbZ));clear hbZ;go_wp2_with fail;exact HX.out
 have ht5:¬(400:Int)<t.size:=Z;have HN1:Hid (SimpleP l true->∃x,TgL s l x):=Hd λh=>by
  have e0:f=0:=by simp at hf;exact hf.1
  exact TgL.of hs4 (λp hp=>(HL.out.2 p hp).1) (HX1.out e0) (HW1.out e0) (h rfl)
 have HN2:Hid (SimpleP m true->∃y,TgL t m y):=Hd λh=>by
  have e0:f2=0:=by simp at hf2;exact hf2.1
  exact TgL.of ht4 (λp hp=>(HM2.out.2 p hp).1) (HX2.out e0) (HW2.out e0) (h rfl)
 have CS1:=Hd (zJo l HL.out.1 HL.out.2 _ w4 HLR4.out);clear hf hf2 hs4 ht4 HX1 HX2 HW1 HW2 HL HA4;go_wp2_with fail;refine CS1.out.mono ?_;intro e w5 h5;unfold BoolQ at h5;obtain⟨z5,rfl,hz5,hb5⟩:=h5;have HB5:=Hd (zD HB4.out hb5);have HLR5:=Hd (HLR4.out.below hb5);have HMR5:=Hd (HMR4.out.below hb5);have HA5:=Hd (CF.out w5 HB5.out);clear hb5 HB4 HLR4 HMR4 CS1;cases z5 with
 |false =>
  go_wp2_with fail;refine HA5.out.mono ?_;rintro e wZ ⟨rfl,hbZ⟩;have HX:=Hd (HQ.out wZ (zD HB5.out hbZ));clear hbZ;go_wp2_with fail;exact HX.out
 |true =>
 obtain⟨x,hx⟩:=HN1.out hz5;have HXX:=Hd hx;have CS2:=Hd (zJo m HM2.out.1 HM2.out.2 _ w5 HMR5.out);have hxn:=hx.n;clear hx hz5 HN1 HM2 HA5;go_wp2_with fail;refine CS2.out.mono ?_;intro e w6 h6;unfold BoolQ at h6;obtain⟨z6,rfl,hz6,hb6⟩:=h6;have HB6:=Hd (zD HB5.out hb6);have HLR6:=Hd (HLR5.out.below hb6);have HMR6:=Hd (HMR5.out.below hb6);have HA6:=Hd (CF.out w6 HB6.out);clear hb6 HB5 HLR5 HMR5 CS2;cases z6 with
 |false =>
  go_wp2_with fail;refine HA6.out.mono ?_;rintro e wZ ⟨rfl,hbZ⟩;have HX:=Hd (HQ.out wZ (zD HB6.out hbZ));clear hbZ;go_wp2_with fail;exact HX.out
 |true =>
 obtain⟨y,hy⟩:=HN2.out hz6;have HYY:=Hd hy;have hyn:=hy.n;have hl0:1<=l.length:=by have h1:=HXX.out.r;have h2:=HXX.out.e;have:=ExT.len_pos (Or.inl h1);rw[h2]at this;omega
 clear hy hz6 HN2 HA6;have HAT:Hid (tgRel l w6 (.slice none 0 0) (.int .i64 1) w6):=Hd (by
  unfold tgRel;exact⟨1,[],rfl,nR _,hl0,⟨_,_,_,rfl⟩,World.ownsRow_nil _ _ _ _,Nat.zero_le _,(by intro x hx;cases hx),bR _ _⟩)
 go_wp2_with fail;go_loopw [11,12] (λpv iv wr=>tgRel l w6 pv iv wr) (λ_ iv _=>l.length-(intOf iv).toNat)
 case atStart=>exact HAT.out
 case round =>
  unfold tgRel at hrel;obtain⟨k,p,rfl,hk1,hk,⟨pa,pn,pc,rfl⟩,hown,hpl,hok,hb⟩:=hrel;obtain⟨a',c',e',hpc,hrow⟩:=(zK.of_owns hown).open';simp only[Value.slice.injEq]at e';obtain⟨rfl,rfl,rfl⟩:=e';have HO:=Hd hown;have HB:=Hd hb;have HOK:=Hd hok;have HRO:=Hd hrow;clear hown hb hok hrow HAT;by_cases hlt:k<l.length
  .have hlt':(k:Int)<l.length:=Z;obtain⟨b,off,rfl,_,_,_,hcell⟩:=HLR6.out.at HB.out (show 0<l.length by omega);obtain⟨c0,c1,c2⟩:=hcell k hlt;have hk0:(0:Int)<=k:=Z;have hkc:(k:Int)<cl:=Z;have hwk:IntKind.i64.wrap ((k:Int)+1)=((k+1:Nat):Int):=wI Z;have HSK:∀W',Below w6.heap.size w6 W'->W'.ownsRow w6.heap.size 3 1 (.slice pa p.length pc) p.length (p.map (Value.int .i64))->Hid (tgRel l w6 (.slice pa p.length pc) (.int .i64 ((k+1:Nat):Int)) W'):=λW' hb' ho'=>Hd (by
    unfold tgRel;exact⟨k+1,p,rfl,Z,hlt,⟨_,_,_,rfl⟩,ho',Z,HOK.out,hb'⟩)
   have hml:l.length-(k+1)<l.length-k:=Z;clear hcell;by_cases hE:l[k]=(26,0,⟨#[120]⟩)
   .have HE:=Hd hE;rw[hE]at c0 c1 c2;have CN:=Hd (zYr l Z HXX.out.c _ k Z hlt wr (HLR6.out.below HB.out));clear hE;go_wp2_with fail;refine CN.out.mono ?_;intro e w7 h7;unfold BoolQ at h7;obtain⟨z7,rfl,hz7,hb7⟩:=h7;have HO7:=Hd (yM HO.out hb7);have HB7:=Hd (HB.out.trans (hb7.mono HB.out.size));clear hb7 CN c0 c1 c2;cases z7 with
    |true =>
     have HX:=HSK w7 HB7.out HO7.out;clear HSK;go_wp2_with fail;exact⟨HX.out,by simp only[intOf];omega⟩
    |false =>
     have hns:¬SelAt l k:=λh=>by cases hz7 h
     obtain⟨v8,w8,hr,hown,hgr,-⟩:=vV (P:=Tryz.prog) w7 #[.int .i64 (k:Int)] 3 31 31 3 Tryz.underlying31 w6.heap.size zVj rfl V _ _ _ HO7.out 1 1 rfl (nR _) (by intro u hu;simp at hu;subst hu;rfl) Z Z HB7.out.size;have HRUN:=Hd hr;have hb8:Below w6.heap.size w6 w8:=xZ (HB7.out.alloc HB7.out.size (.cells #[.int .i64 (k:Int)] 3)) (by have:=HB7.out.size;simp;omega) (HO7.out.alloc _) hgr;obtain⟨a8,n8,c8,rfl⟩:=zI hown;have HX:Hid (tgRel l w6 (.slice a8 n8 c8) (.int .i64 ((k+1:Nat):Int)) w8):=Hd (by
      unfold tgRel;refine⟨k+1,p++[(k:Int)],rfl,Z,hlt,⟨_,_,_,rfl⟩,by simpa using hown,by simp;omega,λu hu=>?_,hb8⟩;rcases List.mem_append.1 hu with hu|hu
      .exact HOK.out u hu
      .rw[List.mem_singleton]at hu;subst hu;exact⟨k,rfl,Z,by rw[gE hlt,HE.out],hns⟩)
     clear HSK hr hown hgr hb8;go_wp2_with (at_builtin;refine zE rfl _ _ _ _ HRUN.out rfl rfl rfl rfl ?_);exact⟨HX.out,by simp only[intOf];omega⟩
   .have HX:=HSK wr HB.out HO.out;generalize l[k]=q at *;obtain⟨xk,xn,xw⟩:=q;simp only[]at c0 c1 c2;have hcs:xk≠26\/(xk=26/\xn≠0)\/(xk=26/\xn=0/\xw≠⟨#[120]⟩):=by
     by_cases h1:xk=26
     .by_cases h2:xn=0
      .exact Or.inr (Or.inr ⟨h1,h2,λh3=>hE (by rw[h1,h2,h3])⟩)
      .exact Or.inr (Or.inl ⟨h1,h2⟩)
     .exact Or.inl h1
    clear hE HSK;rcases hcs with h1|⟨rfl,h2⟩|⟨rfl,rfl,h3⟩
    .have f1:((xk:Int)==26)=false:=by rw[bE];omega
     have f2':¬(xk:Int)=26:=Z;go_wp2_with fail;exact⟨HX.out,by simp only[intOf];omega⟩
    .have f1:(xn==0)=false:=by rw[bE];exact h2
     go_wp2_with fail;exact⟨HX.out,by simp only[intOf];omega⟩
    .have f1:(xw.toList==[120])=false:=by
      rw[bE];intro e;rw[ByteArray.toList_eq]at e;exact h3 (ByteArray.ext (Array.ext' e))
     go_wp2_with fail;exact⟨HX.out,by simp only[intOf];omega⟩
  .obtain rfl:k=l.length:=Z;have hlt':¬(l.length:Int)<l.length:=Z;have HW:=Hd (zD HB6.out HB.out);have HA:=Hd (CF.out wr HW.out);have HTr:=Hd (HT.out.below HW.out);have HMr:=Hd (HM.out.below HW.out);have HLR:=Hd (HLR6.out.below HB.out);have HMR:=Hd (HMR6.out.below HB.out);clear HLR6 HMR6 HB6 HB HO;by_cases hp0:p.length=0
   .have hp0':(p.length:Int)=0:=Z;go_wp2_with fail;refine HA.out.mono ?_;rintro e wZ ⟨rfl,hbZ⟩;have HX:=Hd (HQ.out wZ (zD HW.out hbZ));clear hbZ;go_wp2_with fail;exact HX.out
   have hp0':¬(p.length:Int)=0:=Z;clear HA;obtain⟨r1,hr1⟩:∃r1:Int,a0.tmod (p.length:Int)=r1:=⟨_,rfl⟩;have hr1b:-(p.length:Int)<r1/\r1<p.length:=by
    rw[<-hr1];by_cases h:0<=a0
    .rw[Int.tmod_eq_emod_of_nonneg h];have:=Int.emod_nonneg a0 hp0';have:=Int.emod_lt_of_pos a0 (show 0<(p.length:Int)by omega);omega
    .rw[show a0=-(-a0)by omega,Int.neg_tmod,Int.tmod_eq_emod_of_nonneg Z];have:=Int.emod_nonneg (-a0) hp0';have:=Int.emod_lt_of_pos (-a0) (show 0<(p.length:Int)by omega);omega
   have hw1:IntKind.i64.wrap r1=r1:=wI Z;have hw2:IntKind.i64.wrap (r1+(p.length:Int))=r1+(p.length:Int):=wI Z;obtain⟨d,hd,hdl⟩:∃d:Nat,(r1+(p.length:Int)).tmod (p.length:Int)=(d:Int)/\d<p.length:=by
    rw[Int.tmod_eq_emod_of_nonneg Z];have h1:=Int.emod_nonneg (r1+(p.length:Int)) hp0';have h2:=Int.emod_lt_of_pos (r1+(p.length:Int)) (show 0<(p.length:Int)by omega);exact⟨((r1+(p.length:Int)) % (p.length:Int)).toNat,Z,Z⟩
   have hw3:IntKind.i64.wrap (d:Int)=(d:Int):=wI Z;obtain⟨pb,po,rfl,_,hpcell⟩:=HRO.out Z;have cp:=hpcell d hdl;obtain⟨i,z,hi,hil,hz,hsw,hzl,hsm,hzw,hgz,hfit⟩:=yIl HXX.out HYY.out (HOK.out _ (gM hdl));rw[hi]at cp hsw;have hd0:(0:Int)<=d:=Z;have hdl':(d:Int)<p.length:=Z;have hdc:(d:Int)<pc:=Z;have CW:=Hd (zTl l Z _ (i:Int) 1 m Z _ wr HLR.out HMR.out);rw[hsw]at CW;have HFT:=Hd hfit;have HGZ:=Hd hgz;have HZS:=Hd hsm;have HZW:=Hd hzw;clear hr1b hpcell hi hsw hfit hgz hsm hzw HLR HMR HRO HOK;go_wp2_with fail;refine CW.out.mono ?_;intro e w7 h7;unfold swapPost at h7;obtain⟨v7,rfl,hb7,ho7⟩:=h7;have HW7:=Hd (zD HW.out hb7);have HT7:=Hd (HTr.out.below hb7);have HM7:=Hd (HMr.out.below hb7);have HR7:Hid (zG w7 v7 z.flat):=Hd (Row.of_owns ho7);obtain⟨va7,vn7,vc7,rfl⟩:=zI ho7;have CP:=Hd (zXy w7 z.flat _ HR7.out HZS.out HM7.out HZW.out);clear hb7 ho7 CW HW HTr HMr cp;go_wp2_with fail;refine CP.out.mono ?_;intro e w8 h8;unfold putPost at h8;obtain⟨hb8,ov,rfl,ho8⟩:=h8;have HW8:=Hd (zD HW7.out hb8);have HA8:=Hd (CF.out w8 HW8.out);have HT8:=Hd (HT7.out.below hb8);have HM8:=Hd (HM7.out.below hb8);have hlen:(guardZ z.flat (List.replicate z.flat.length 0)).length=z.grd.flat.length:=by rw[<-HGZ.out,List.length_map]
   rw[hlen,HGZ.out]at ho8;have HR8:Hid (zG w8 ov z.grd.flat):=Hd (Row.of_owns ho8);obtain⟨va8,vc8,rfl,hvc8⟩:=HR8.out.slice;clear hb8 ho8 CP HW7 HT7 HM7 hlen;by_cases hbig:500<z.grd.flat.length
   .have hbig':(500:Int)<z.grd.flat.length:=Z;go_wp2_with fail;refine HA8.out.mono ?_;rintro e wZ ⟨rfl,hbZ⟩;have HX:=Hd (HQ.out wZ (zD HW8.out hbZ));clear hbZ;go_wp2_with fail;exact HX.out
   .have hbig':¬(500:Int)<z.grd.flat.length:=Z;have CX:=Hd (yFr (HFT.out Z) _ w8 HT8.out HM8.out HR8.out);go_wp2_with fail;refine CX.out.mono ?_;rintro e w9 ⟨rfl,hb9⟩;have HW9:=Hd (zD HW8.out hb9);have HA9:=Hd (CF.out w9 HW9.out);clear hb9 CX HA8;go_wp2_with fail;refine HA9.out.mono ?_;rintro e wZ ⟨rfl,hbZ⟩;have HX:=Hd (HQ.out wZ (zD HW9.out hbZ));clear hbZ;go_wp2_with fail;exact HX.out
end Go.Proofs.YtfpjdpdmgceciaaGreatDoor
