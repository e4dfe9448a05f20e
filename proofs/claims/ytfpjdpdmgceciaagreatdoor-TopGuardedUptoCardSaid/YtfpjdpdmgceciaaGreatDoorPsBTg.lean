/- Layer 12: tokens are taken, nodes begun. -/
import Derived.Test.YtfpjdpdmgceciaaGreatDoorAppEqTg
import Derived.StillTailTactics
import Derived.Deep.Cut
namespace Go.Proofs.YtfpjdpdmgceciaaGreatDoor
set_option maxRecDepth 100000
set_option maxHeartbeats 32000000
set_option linter.all false
attribute [local irreducible] Calls
attribute [local irreducible] wpStill
open Go.RowKit
theorem St.doneK{E:SynE}{W:World}{j:Nat}{I:List Item}{n k:Nat}{w f t:Int}(h:St E W j (.raw n (nodeC k w f t (.slice none 0 0))::I))(hw:-1<=w/\w<E.N)(hk:k<256/\kOK E k w 0):St E W j (.done n k [] [(k,0,textZ E k w)]::I):=by
 have h1:St E W j (.row (.slice none 0 0) [] []::.raw n (nodeC k w f t (.slice none 0 0))::I):=h.nil;have h2:St E W j (.raw n (nodeC k w f t (.slice none 0 0))::.row (.slice none 0 0) [] []::I):=by
  refine⟨h1.r,λx hx=>(h1.ok x (by simp at hx ⊢;rcases hx with h|h|h<;>simp[h])).to (λb hf=>⟨rfl,hf.1,hf.2.1,λy hy=>hf.2.2 y (by simp at hy ⊢;rcases hy with h|h|h<;>simp[h])⟩) (λ_ _ _=>rfl),λx hx=>h1.gt x (by simp at hx ⊢;rcases hx with h|h|h<;>simp[h]),?_⟩;have h3:=List.pairwise_cons.1 h1.nd;have h4:=List.pairwise_cons.1 h3.2;exact List.pairwise_cons.2 ⟨λy hy b e e'=>by
   rcases List.mem_cons.1 hy with rfl|hy
   ·(cases e')
   .exact h4.1 y hy b e e',List.pairwise_cons.2 ⟨λy hy b e=>(by cases e),h4.2⟩⟩
 have h3:=St.closeK [] h2 hw hk;exact h3
theorem St.done0{E:SynE}{W:World}{j:Nat}{I:List Item}{n k:Nat}{w f t:Int}(h:St E W j (.raw n (nodeC k w f t (.slice none 0 0))::I))(hw:-1<=w/\w<E.N)(hk:k<256/\leastC k=0):St E W j (.done n k [] [(k,0,textZ E k w)]::I):=h.doneK hw ⟨hk.1,kOK.of Z⟩
@[irreducible] def PM(E:SynE)(I:List Item)(j:Nat)(ok:Bool)(e:Ending)(W':World):Prop :=
 e=.returned (.bool ok)/\St E W' (if ok then j+1 else j) I
@[irreducible] def PL(E:SynE)(I:List Item)(j k:Nat)(ok:Bool)(e:Ending)(W':World):Prop :=
 (ok=true/\∃g,e=.returned (ptrV g)/\St E W' (j+1) (.done g k [] [(k,0,textZ E k j)]::I))\/(ok=false/\e=panE j/\St E W' j I)
theorem PL.shape{E:SynE}{I:List Item}{j k:Nat}{ok:Bool}{e:Ending}{W':World}(h:PL E I j k ok e W'):(∃g,e=.returned (ptrV g))\/∃i,e=panE i:=by
 unfold PL at h;rcases h with⟨_,g,h,_⟩|⟨_,h,_⟩
 .exact Or.inl ⟨g,h⟩
 .exact Or.inr ⟨_,h⟩
@[irreducible] def PB(E:SynE)(I:List Item)(j k:Nat)(t:Int)(e:Ending)(W':World):Prop :=
 ∃g,e=.returned (ptrV g)/\St E W' j (.raw g (nodeC k (-1) j t (.slice none 0 0))::I)
section
variable {E:SynE} {W:World} {j:Nat} {I:List Item}
theorem St.jb(F:SynF E)(h:St E W j I):(j:Int)<=1000000:=by have:=h.r.le;have:=F.n;unfold SynE.N at *;omega
theorem wi64(n:Int)(h:-1000000000000<=n/\n<=1000000000000):IntKind.i64.wrap n=n:=by rw[IntKind.wrap_i64];omega
theorem zBk{E:SynE}{j:Nat}(h:(wordZ E j).toList≠[]):j<E.N:=yEy (λe=>h (by rw[e];decide +kernel))
def isW(E:SynE)(j:Nat)(w:List UInt8):Bool:=(wordZ E j).toList==w
theorem yAu{E:SynE}{j:Nat}{w:List UInt8}(hw:w≠[])(h:isW E j w=true):j+1<=E.N:=zBk (by unfold isW at h;rw[beq_iff_eq]at h;rw[h];exact hw)
theorem zDp(F:SynF E)(h:St E W j I)(w:List UInt8)(hw:w≠[]):Calls Tryz.prog 59 #[ptrV E.gr,.string ⟨w.toArray⟩] W (PW E I j (isW E j w)):=by
 have C:=Hd (gO F h.r);have CF:=Hd (λW' (h':St E W' j I)=>fR h'.r);have HS:=Hd h;have hjb:=h.jb F;have hwj:=wi64 ((j:Int)+1) Z;cases c:isW E j w with
 |true =>
  have hN:=yAu hw c;have HQ:Hid (∀W',St E W' (j+1) I->PW E I j true (.returned (.tuple #[])) W'):=Hd λW' h'=>by unfold PW;exact Or.inl ⟨rfl,rfl,h'⟩
  have HN:Hid (∀W',St E W' j I->St E (W'.setCell ⟨E.gr,3,none⟩ (.int .i64 ((j:Int)+1))) (j+1) I):=Hd λW' h'=>h'.at' (j+1) hN
  generalize PW E I j true=Q at *;clear h F hw;unfold isW at c;generalize wordZ E j=x at *;go_enter Tryz.func59,Tryz.ntmps59;go_wp2_with fail;refine C.out.mono ?_;rintro e w' ⟨rfl,hb⟩;have HS1:=Hd (HS.out.ext hb);clear hb;have c3:=HS1.out.r.c3;have z3:=HS1.out.r.z 3;go_wp2_with fail;go_end0;exact HQ.out _ (HN.out _ HS1.out)
 |false =>
  have HQ:Hid (∀W',St E W' j I->PW E I j false (panE j) W'):=Hd λW' h'=>by unfold PW;exact Or.inr ⟨rfl,rfl,h'⟩
  generalize PW E I j false=Q at *;clear h F hw;unfold isW at c;generalize wordZ E j=x at *;go_enter Tryz.func59,Tryz.ntmps59;go_wp2_with fail;refine C.out.mono ?_;rintro e w' ⟨rfl,hb⟩;have HS1:=Hd (HS.out.ext hb);clear hb;go_wp2_with fail;refine(CF.out _ HS1.out).mono ?_;rintro e w2 ⟨rfl,hb⟩;exact⟨rfl,HQ.out _ (HS1.out.ext hb)⟩
theorem zBz(F:SynF E)(h:St E W j I)(w:List UInt8)(hw:w≠[]):Calls Tryz.prog 38 #[ptrV E.gr,.string ⟨w.toArray⟩] W (PM E I j (isW E j w)):=by
 have C:=Hd (gO F h.r);have HS:=Hd h;have hjb:=h.jb F;have hwj:=wi64 ((j:Int)+1) Z;cases c:isW E j w with
 |true =>
  have hN:=yAu hw c;have HQ:Hid (∀W',St E W' (j+1) I->PM E I j true (.returned (.bool true)) W'):=Hd λW' h'=>by unfold PM;exact⟨rfl,h'⟩
  have HN:Hid (∀W',St E W' j I->St E (W'.setCell ⟨E.gr,3,none⟩ (.int .i64 ((j:Int)+1))) (j+1) I):=Hd λW' h'=>h'.at' (j+1) hN
  generalize PM E I j true=Q at *;clear h F hw;unfold isW at c;generalize wordZ E j=x at *;go_enter Tryz.func38,Tryz.ntmps38;go_wp2_with fail;refine C.out.mono ?_;rintro e w' ⟨rfl,hb⟩;have HS1:=Hd (HS.out.ext hb);clear hb;have c3:=HS1.out.r.c3;have z3:=HS1.out.r.z 3;go_wp2_with fail;exact HQ.out _ (HN.out _ HS1.out)
 |false =>
  have HQ:Hid (∀W',St E W' j I->PM E I j false (.returned (.bool false)) W'):=Hd λW' h'=>by unfold PM;exact⟨rfl,h'⟩
  generalize PM E I j false=Q at *;clear h F hw;unfold isW at c;generalize wordZ E j=x at *;go_enter Tryz.func38,Tryz.ntmps38;go_wp2_with fail;refine C.out.mono ?_;rintro e w' ⟨rfl,hb⟩;have HS1:=Hd (HS.out.ext hb);clear hb;go_wp2_with fail;exact HQ.out _ HS1.out
theorem yAv(h:St E W j I)(k:Nat)(hk:k<256):Calls Tryz.prog 58 #[ptrV E.gr,.int .u8 (k:Int)] W (PB E I j k 0):=by
 have c3:=h.r.c3;have z3:=h.r.z 3;have HQ:Hid (PB E I j k 0 (.returned (ptrV W.heap.size)) (W.alloc (nodeC k (-1) j 0 (.slice none 0 0)))):=Hd (by unfold PB;exact⟨_,rfl,h.new _⟩);generalize PB E I j k 0=Q at *;clear h;go_enter Tryz.func58,Tryz.ntmps58;go_wp2_with fail;exact HQ.out
theorem zPk(h:St E W j I)(k:Nat)(hk:k<256):Calls Tryz.prog 101 #[ptrV E.gr,.int .u8 (k:Int)] W (PB E I j k j):=by
 have c3:=h.r.c3;have z3:=h.r.z 3;have HQ:Hid (PB E I j k j (.returned (ptrV W.heap.size)) ((W.alloc (nodeC k (-1) j j (.slice none 0 0))).drew)):=Hd (by unfold PB;exact⟨_,rfl,(h.new _).ext (bR _ _).drew⟩);generalize PB E I j k j=Q at *;clear h;go_enter Tryz.func101,Tryz.ntmps101;go_wp2_with fail;go_still_tail 10,Oa;go_wp2_with fail;exact HQ.out
theorem zDq(F:SynF E)(h:St E W j I)(k:Nat)(hk:k<256)(ok:Bool)(hok:ok=true->j<E.N/\kOK E k j 0):Calls Tryz.prog 103 #[ptrV E.gr,.int .u8 (k:Int),.bool ok] W (PL E I j k ok):=by
 have CF:=Hd (fR h.r);have c3:=h.r.c3;have z3:=h.r.z 3;have hjb:=h.jb F;have hwj:=wi64 ((j:Int)+1) Z;have hwk:=wi64 (((j:Int)+1)-1) Z;cases ok with
 |true =>
  obtain⟨hN,hkj⟩:=hok rfl;have HS1:=Hd (h.at' (j+1) hN);have HQ:Hid (∀W',St E W' (j+1) I->PL E I j k true (.returned (ptrV W'.heap.size)) ((W'.alloc (nodeC k j j ((j:Int)+1) (.slice none 0 0))).drew)):=Hd (λW' h=>by
   unfold PL;exact Or.inl ⟨rfl,_,rfl,((h.new (nodeC k j j ((j:Int)+1) (.slice none 0 0))).ext (bR _ _).drew).doneK ⟨Z,Z⟩ ⟨hk,hkj⟩⟩)
  generalize PL E I j k true=Q at *;clear h F hok hk hkj CF;go_enter Tryz.func103,Tryz.ntmps103;go_upto_region 4 with(fail);have e3:=HS1.out.r.c3;rw[show(((j+1:Nat):Int))=(j:Int)+1 by omega]at HS1 e3;generalize W.setCell ⟨E.gr,3,none⟩ (.int .i64 ((j:Int)+1))=W1 at *;clear c3 z3;go_still_tail 16,Oa;go_wp2_with fail;exact HQ.out _ HS1.out
 |false =>
  have HQ:Hid (∀W',Below W.heap.size W W'->PL E I j k false (panE j) W'):=Hd (λW' hb=>by
   unfold PL;exact Or.inr ⟨rfl,rfl,h.ext hb⟩)
  generalize PL E I j k false=Q at *;clear h F hok;go_enter Tryz.func103,Tryz.ntmps103;go_wp2_with fail;refine CF.out.mono ?_;rintro e w2 ⟨rfl,hb⟩;exact⟨rfl,HQ.out _ hb⟩
theorem zPl(F:SynF E)(h:St E W j I):Calls Tryz.prog 60 #[ptrV E.gr] W (PL E I j 26 (namedB E j)):=by
 have CN:=Hd (xS F h.r j (h.r.jn F));have CL:=Hd (λW' (h':St E W' j I)=>zDq F h' 26 V (namedB E j) (λh=>⟨yAs h,V,λ_=>⟨λ_=>by simpa[namedB]using h,λe=>by cases e⟩⟩));have HS:=Hd h;have c3:=h.r.c3;have HX:=Hd (λe w h=>PL.shape (E:=E) (I:=I) (j:=j) (k:=26) (ok:=namedB E j) (e:=e) (W':=w) h);generalize PL E I j 26 (namedB E j)=Q at *;generalize namedB E j=ok at *;clear h F;go_enter Tryz.func60,Tryz.ntmps60;go_wp2_with fail;refine CN.out.mono ?_;rintro e w2 ⟨rfl,hb⟩;have HS1:=Hd (HS.out.ext hb);clear hb;go_wp2_with fail;refine(CL.out _ HS1.out).mono ?_;intro e w3 h3;rcases HX.out e w3 h3 with⟨g,rfl⟩|⟨i,rfl⟩
 .go_wp2_with fail;exact h3
 .exact⟨rfl,h3⟩
theorem zHa(F:SynF E)(h:St E W j I):Calls Tryz.prog 154 #[ptrV E.gr] W (PL E I j 27 (quotedB E j)):=by
 have CN:=Hd (zDb F h.r j (h.r.jn F));have CL:=Hd (λW' (h':St E W' j I)=>zDq F h' 27 V (quotedB E j) (λh=>⟨zWx h,V,λ_=>⟨λe=>(by cases e),λ_=>by have:kindZ E j=7:=(by simpa[quotedB]using h);exact⟨Z,Z⟩⟩⟩));have HS:=Hd h;have c3:=h.r.c3;have HX:=Hd (λe w h=>PL.shape (E:=E) (I:=I) (j:=j) (k:=27) (ok:=quotedB E j) (e:=e) (W':=w) h);generalize PL E I j 27 (quotedB E j)=Q at *;generalize quotedB E j=ok at *;clear h F;go_enter Tryz.func154,Tryz.ntmps154;go_wp2_with fail;refine CN.out.mono ?_;rintro e w2 ⟨rfl,hb⟩;have HS1:=Hd (HS.out.ext hb);clear hb;go_wp2_with fail;refine(CL.out _ HS1.out).mono ?_;intro e w3 h3;rcases HX.out e w3 h3 with⟨g,rfl⟩|⟨i,rfl⟩
 .go_wp2_with fail;exact h3
 .exact⟨rfl,h3⟩
end
theorem zSm:(Tryz.prog.info? 41).map (λi=>(i.zero,i.size,i.bytes))=some (some (.pointer none),1,8):=Oa
section
variable {E:SynE} {W:World} {j:Nat} {I:List Item}
theorem St.append(A:List Item){v:Value}{gs:List Nat}{ps:List Prt}(h:St E W j (A++.row v gs ps::I))(u:Value)(us:List Nat)(psu:List Prt)(hu:Row W u us.length 1 (ptrsV us))(hg:GoodS E W (FrB E W (A++.row v gs ps::I)) us psu)(hl:gs.length+us.length<=1000000000) :
  ∃v' w',(Builtin.append_ #[48,48] 48 #[v,u]).run Tryz.prog W=.ok v' w'/\St E w' j (A++.row v' (gs++us) (ps++psu)::I)/\∃a n c,v'=.slice a n c:=by
 have hm:Item.row v gs ps∈A++.row v gs ps::I:=Ob;have hrow:=(h.ok _ hm).1;obtain⟨v',w',r1,o1,g1,k1⟩:=kG (P:=Tryz.prog) W 48 48 41 Tryz.underlying48 0 zSm rfl V v gs.length (ptrsV gs) hrow u us.length (ptrsV us) hu (yAy us) Z Z (Nat.zero_le _);have o2:NRow w' v' (gs++us):=by rw[<-yAz,<-lA]at o1;exact o1
 exact⟨v',w',r1,St.grow A h g1 k1 o2 hg,zI o2⟩
@[irreducible] def PC(E:SynE)(I:List Item)(A:List Item)(j n k:Nat)(w:Int)(gs:List Nat)(ps:List Prt)(e:Ending)(W':World):Prop :=
 e=.returned (ptrV n)/\St E W' j (A++.done n k gs ((k,(gs.length:Int),textZ E k w)::ps)::I)
theorem St.rawAt{o:Obj}{b:Nat}(h:St E W j I)(hm:.raw b o∈I):W.heap[b]?=some o:=h.ok _ hm
theorem zEw(F:SynF E)(A:List Item){n k:Nat}{w f t:Int}{v:Value}{gs:List Nat}{ps:List Prt}(h:St E W j (A++.raw n (nodeC k w f t v)::.row v gs ps::I))(u:Value)(us:List Nat)(psu:List Prt)(hu:Row W u us.length 1 (ptrsV us))(hg:GoodS E W (FrB E W (A++.raw n (nodeC k w f t v)::.row v gs ps::I)) us psu)(hl:gs.length+us.length<=1000000000)(hw:-1<=w/\w<E.N)(hk:k<256/\leastC k<=gs.length+us.length):Calls Tryz.prog 65 #[ptrV E.gr,ptrV n,u] W (PC E I A j n k w (gs++us) (ps++psu)):=by
 have e1:A++.raw n (nodeC k w f t v)::.row v gs ps::I=(A++[.raw n (nodeC k w f t v)])++.row v gs ps::I:=Ob;obtain⟨v',w',hr,h1,a,m,c,rfl⟩:=St.append (A++[.raw n (nodeC k w f t v)]) (e1▸h) u us psu hu (e1▸hg) hl;have hraw:=h.rawAt (b:=n) (o:=nodeC k w f t v) Ob;have h2:St E w' j (A++.raw n (nodeC k w f t v)::.row (.slice a m c) (gs++us) (ps++psu)::I):=by simpa using h1
 have hraw2:=h2.rawAt (b:=n) (o:=nodeC k w f t v) Ob;have hgn:=(h2.gt (.raw n (nodeC k w f t v)) Ob n rfl).1;have h3:=h2.put A 4 (.slice a m c);have h4:=St.put A h3 3 (.int .i64 (j:Int));have h5:St E ((w'.setCell ⟨n,4,none⟩ (.slice a m c)).setCell ⟨n,3,none⟩ (.int .i64 (j:Int))) j (A++.raw n (nodeC k w f j (.slice a m c))::.row (.slice a m c) (gs++us) (ps++psu)::I):=h4;have HQ:Hid (PC E I A j n k w (gs++us) (ps++psu) (.returned (ptrV n)) ((w'.setCell ⟨n,4,none⟩ (.slice a m c)).setCell ⟨n,3,none⟩ (.int .i64 (j:Int)))):=Hd (by
  unfold PC;exact⟨rfl,St.close A h5 hw ⟨hk.1,by rw[lA];exact hk.2⟩⟩)
 have c4:W.cell? ⟨n,4,none⟩=some v:=by simp[World.cell?,hraw]
 have d4:w'.cell? ⟨n,4,none⟩=some v:=by simp[World.cell?,hraw2]
 have z4:w'.frozen? ⟨n,4,none⟩=false:=by simp[World.frozen?,hraw2]
 have d3:w'.cell? ⟨n,3,none⟩=some (.int .i64 t):=by simp[World.cell?,hraw2]
 have z3:w'.frozen? ⟨n,3,none⟩=false:=by simp[World.frozen?,hraw2]
 have q3:=h2.r.c3;have hne:E.gr≠n:=Nat.ne_of_lt hgn;have hne':n≠E.gr:=Nat.ne_of_gt hgn;have HR:=Hd hr;generalize PC E I A j n k w (gs++us) (ps++psu)=Q at *;clear h h1 h2 h3 h4 h5 hg hu hraw hraw2 hr e1;go_enter Tryz.func65,Tryz.ntmps65;go_wp2_with (at_builtin;refine zE rfl _ _ _ _ HR.out rfl rfl rfl rfl ?_);exact HQ.out
end
end Go.Proofs.YtfpjdpdmgceciaaGreatDoor
