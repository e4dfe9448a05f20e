/- Layer 12: operands, elements, values, rows with commas (printed by tools/gensyn2.py). -/
import Derived.Test.YtfpjdpdmgceciaaGreatDoorPsVTg
import Derived.Test.YtfpjdpdmgceciaaGreatDoorUntilTg
namespace Go.Proofs.YtfpjdpdmgceciaaGreatDoor
set_option maxRecDepth 100000
set_option maxHeartbeats 32000000
set_option linter.all false
attribute [local irreducible] Calls
attribute [local irreducible] wpStill
open Go.RowKit
section
variable {E:SynE}
@[irreducible] def xsRel(E:SynE)(I:List Item)(j:Nat)(κ:List Prt->Prop)(kv:Value)(W:World):Prop :=
 ∃gs ps,∃i:Nat,(∃a n c,kv=.slice a n c)/\St E W i (.row kv gs ps::I)/\j+1<=i/\(ps.length:Int)<=8*((i:Int)-j)-7/\gs.length+j<=i/\1<=gs.length/\RowK κ gs.length ps
theorem yAj{m:Nat}(HF:Hid (SynF E))(HI:Hid (IH E m)):Okk E 194 12 (-6) XS (m+1):=by
 refine okK HF λW j I Q HP HQ HS hN hj hm=>?_;go_enter Tryz.func194,Tryz.ntmps194;go_wp2_with fail;refine mOk HI.out.expr HS HP 0 λg1 k1 s1 p1 i1 w1 HS1 hi1 kp1=>?_;have HR:Hid (xsRel E I j X1 (.slice (some ⟨w1.heap.size,0,none⟩) 1 1) (w1.alloc (.cells #[ptrV g1] 41))):=Hd (by
  unfold xsRel;exact⟨[g1],_,i1,⟨_,_,_,rfl⟩,(HS1.out.lit [g1] _ (by have:=GoodS.cons (HS1.out.ok _ (.head _)) (GoodS.nil _ _ _);simpa using this) Ob).pop2,Z,by(try simp only[lC,lN]);omega,by simp;omega,Ob,by simpa using RowK.nil.snoc (κ:=X1) (p:=p1) kp1⟩)
 go_wp2_with fail;go_loopw [3] (λkv wr=>xsRel E I j X1 kv wr) (λ_ wr=>E.N-rdAt E wr)
 case atStart=>exact HR.out
 case round =>
  unfold xsRel at hrel;obtain⟨gs,ps,i,⟨va,vn,vc,rfl⟩,hst,hji,hps,hgs,hg1,hrk⟩:=hrel;have HRK:=Hd hrk;have HS:=Hd hst;have hiN:=hst.r.le;have HM0:Hid (E.N-rdAt E wr=E.N-i):=Hd (by rw[HS.out.rdAt]);clear hst HR hrk HS1;go_wp2_with fail;refine mM HF HS [44] (λi2 w2 HS2 hi2=>?_) λw2 HS2=>?_
  .go_wp2_with fail;refine mOk HI.out.expr HS2 HP 1 λg3 k3 s3 p3 i3 w3 HS3 hi3 kp3=>?_;obtain⟨v',w3a,hr,hs4,a4,n4,c4,rfl⟩:=St.append1 [_] HS3.out (.head _) Z;have HRUN:=Hd hr;have HR:Hid (xsRel E I j X1 (.slice a4 n4 c4) w3a):=Hd (by
    unfold xsRel;exact⟨_,_,_,⟨_,_,_,rfl⟩,hs4.tl,Z,by(try simp only[lA,lC,lN]);omega,by simp;omega,Ob,by rw[lA];exact HRK.out.snoc kp3⟩)
   have HM:Hid (E.N-rdAt E w3a<E.N-rdAt E wr):=Hd (by rw[HM0.out,hs4.rdAt];omega);clear hr hs4;go_wp2_with (at_builtin;refine zE rfl _ _ _ _ HRUN.out rfl rfl rfl rfl ?_);exact⟨HR.out,HM.out⟩
  go_wp2_with fail;refine mD HF HS2 11 λg4 w4 HS4=>?_;go_wp2_with fail;exact rK HQ HS4.out (by simpa[tz0]using XS.mk hg1 HRK.out)
theorem yAk{m:Nat}(HF:Hid (SynF E))(HI:Hid (IH E m)):Okk E 227 8 (-6) XS (m+1):=by
 refine okK HF λW j I Q HP HQ HS hN hj hm=>?_;go_enter Tryz.func227,Tryz.ntmps227;go_wp2_with fail;refine mOk HI.out.typ HS HP 0 λg1 k1 s1 p1 i1 w1 HS1 hi1 kp1=>?_;have HR:Hid (xsRel E I j X1 (.slice (some ⟨w1.heap.size,0,none⟩) 1 1) (w1.alloc (.cells #[ptrV g1] 41))):=Hd (by
  unfold xsRel;exact⟨[g1],_,i1,⟨_,_,_,rfl⟩,(HS1.out.lit [g1] _ (by have:=GoodS.cons (HS1.out.ok _ (.head _)) (GoodS.nil _ _ _);simpa using this) Ob).pop2,Z,by(try simp only[lC,lN]);omega,by simp;omega,Ob,by simpa using RowK.nil.snoc (κ:=X1) (p:=p1) kp1⟩)
 go_wp2_with fail;go_loopw [3] (λkv wr=>xsRel E I j X1 kv wr) (λ_ wr=>E.N-rdAt E wr)
 case atStart=>exact HR.out
 case round =>
  unfold xsRel at hrel;obtain⟨gs,ps,i,⟨va,vn,vc,rfl⟩,hst,hji,hps,hgs,hg1,hrk⟩:=hrel;have HRK:=Hd hrk;have HS:=Hd hst;have hiN:=hst.r.le;have HM0:Hid (E.N-rdAt E wr=E.N-i):=Hd (by rw[HS.out.rdAt]);clear hst HR hrk HS1;go_wp2_with fail;refine mM HF HS [44] (λi2 w2 HS2 hi2=>?_) λw2 HS2=>?_
  .go_wp2_with fail;refine mOk HI.out.typ HS2 HP 1 λg3 k3 s3 p3 i3 w3 HS3 hi3 kp3=>?_;obtain⟨v',w3a,hr,hs4,a4,n4,c4,rfl⟩:=St.append1 [_] HS3.out (.head _) Z;have HRUN:=Hd hr;have HR:Hid (xsRel E I j X1 (.slice a4 n4 c4) w3a):=Hd (by
    unfold xsRel;exact⟨_,_,_,⟨_,_,_,rfl⟩,hs4.tl,Z,by(try simp only[lA,lC,lN]);omega,by simp;omega,Ob,by rw[lA];exact HRK.out.snoc kp3⟩)
   have HM:Hid (E.N-rdAt E w3a<E.N-rdAt E wr):=Hd (by rw[HM0.out,hs4.rdAt];omega);clear hr hs4;go_wp2_with (at_builtin;refine zE rfl _ _ _ _ HRUN.out rfl rfl rfl rfl ?_);exact⟨HR.out,HM.out⟩
  go_wp2_with fail;refine mD HF HS2 11 λg4 w4 HS4=>?_;go_wp2_with fail;exact rK HQ HS4.out (by simpa[tz0]using XS.mk hg1 HRK.out)
theorem yAl{m:Nat}(HF:Hid (SynF E))(HI:Hid (IH E m)):Ok E 147 3 (-6) (m+1):=by
 refine okI HF λW j I Q HP HQ HS hN hj hm=>?_;go_enter Tryz.func147,Tryz.ntmps147;go_wp2_with fail;refine mA HF HS HP 0 λg1 i1 w1 HS1 hi1=>?_;have HR:Hid (xsRel E I j KT (.slice (some ⟨w1.heap.size,0,none⟩) 1 1) (w1.alloc (.cells #[ptrV g1] 41))):=Hd (by
  unfold xsRel;exact⟨[g1],_,i1,⟨_,_,_,rfl⟩,(HS1.out.lit [g1] _ (by have:=GoodS.cons (HS1.out.ok _ (.head _)) (GoodS.nil _ _ _);simpa using this) Ob).pop2,Z,by(try simp only[lC,lN]);omega,by simp;omega,Ob,by have:=RowK.nil.snoc (κ:=KT) (p:=[(26,0,textZ E 26 (j:Int))]) trivial;simpa using this⟩)
 go_wp2_with fail;go_loopw [3] (λkv wr=>xsRel E I j KT kv wr) (λ_ wr=>E.N-rdAt E wr)
 case atStart=>exact HR.out
 case round =>
  unfold xsRel at hrel;obtain⟨gs,ps,i,⟨va,vn,vc,rfl⟩,hst,hji,hps,hgs,hg1,hrk⟩:=hrel;have HRK:=Hd hrk;have HS:=Hd hst;have hiN:=hst.r.le;have HM0:Hid (E.N-rdAt E wr=E.N-i):=Hd (by rw[HS.out.rdAt]);clear hst HR hrk HS1;go_wp2_with fail;refine mM HF HS [44] (λi2 w2 HS2 hi2=>?_) λw2 HS2=>?_
  .go_wp2_with fail;refine mA HF HS2 HP 1 λg3 i3 w3 HS3 hi3=>?_;obtain⟨v',w3a,hr,hs4,a4,n4,c4,rfl⟩:=St.append1 [_] HS3.out (.head _) Z;have HRUN:=Hd hr;have HR:Hid (xsRel E I j KT (.slice a4 n4 c4) w3a):=Hd (by
    unfold xsRel;exact⟨_,_,_,⟨_,_,_,rfl⟩,hs4.tl,Z,by(try simp only[lA,lC,lN]);omega,by simp;omega,Ob,by rw[lA];exact HRK.out.snoc trivial⟩)
   have HM:Hid (E.N-rdAt E w3a<E.N-rdAt E wr):=Hd (by rw[HM0.out,hs4.rdAt];omega);clear hr hs4;go_wp2_with (at_builtin;refine zE rfl _ _ _ _ HRUN.out rfl rfl rfl rfl ?_);exact⟨HR.out,HM.out⟩
  go_wp2_with fail;refine mD HF HS2 10 λg4 w4 HS4=>?_;go_wp2_with fail;exact rQ HQ HS4.out
theorem zSi{m:Nat}(HF:Hid (SynF E))(HI:Hid (IH E m)):Okk E 177 7 (-7) X1 (m+1):=by
 refine okK HF λW j I Q HP HQ HS hN hj hm=>?_;have hmf:=mkf;go_enter Tryz.func177,Tryz.ntmps177;go_wp2_with fail;refine mP HS 28 λg1 w1 HS1=>?_;have c3:=HS1.out.r.c3;have z3:=HS1.out.r.z 3;go_wp2_with fail;refine mQ (fE HF.out HS1.out.r (j:Int) Z) HS1 λw2 HS2=>?_;clear c3 z3 HS1;cases hx3:litK E (j:Int)with
 |true =>
  have hl:=yHp hx3;go_wp2_with fail;refine mL (zDq HF.out HS2.out 27 V true (λ_=>⟨hl,yAt hx3⟩)) HP 2 λg4 i4 w4 HS4 hi4=>?_;clear hx3 hl HS2;go_wp2_with fail;exact rK HQ HS4.out.pop2.pop2 (yIs _)
 |false =>
  go_wp2_with fail;refine mX HF HS2 λw5 HS5=>?_;refine mS E j [40] (λhx6 hp6=>?_) λhn6=>?_
  .obtain⟨hw,c3,z3,i7,HS7,hi7⟩:=mI HS5 HS5 hN;go_wp2_with fail;refine mYk HI.out.expr zAl HS7 HP 2 λg8 k8 s8 p8 i8 w8 HS8 hi8 kp8=>?_;clear c3 z3 hw HS5 hx3 hx6 hp6 HS7;go_wp2_with fail;refine mW HF HS8 [41] HP 3 λi9 w9 HS9 hi9=>?_;go_wp2_with fail;refine mC HF [_] HS9 (gs1 HS9) (λw10 HS10=>?_);go_wp2_with fail;exact rK HQ HS10.out.tl (by simpa[tz0]using zUw (kp8))
  refine mS E j [102,117,110,99] (λhx11 hp11=>?_) λhn11=>?_
  .obtain⟨hw,c3,z3,i12,HS12,hi12⟩:=mI HS5 HS5 hN;obtain⟨c0,c1,c4,cz,cn,cn2⟩:=HS5.out.ncell t0;have HS13:=Hd (HS12.out.setK [] 46);go_wp2_with fail;refine mY HI.out.signature zMs HS13 HP 2 λg14 k14 s14 p14 i14 w14 HS14 hi14=>?_;clear c3 z3 hw HS5 hx3 hn6 hx11 hp11 c0 c1 c4 cz cn cn2 HS12 HS13;go_wp2_with fail;refine mX HF HS14 λw15 HS15=>?_;refine mS E i14 [123] (λhx16 hp16=>?_) λhn16=>?_
   .obtain⟨c0,c1,c4,cz,cn,cn2⟩:=HS15.out.ncell t1;have HS17:=Hd (HS15.out.setK [_] 40);go_wp2_with fail;refine mY HI.out.block yBb HS17 HP 3 λg18 k18 s18 p18 i18 w18 HS18 hi18=>?_;clear c0 c1 c4 cz cn cn2 HS15 hx16 hp16 HS17;go_wp2_with fail;refine mC HF [_,_] HS18 (gs2 HS18) (λw19 HS19=>?_);go_wp2_with fail;exact rK HQ HS19.out.tl.tl fS
   go_wp2_with fail;refine mC HF [_] HS15 (gs1 HS15) (λw20 HS20=>?_);go_wp2_with fail;exact rK HQ HS20.out.tl fS
  by_cases hx21:(wordZ E j).toList=[91]\/(wordZ E j).toList=[115,116,114,117,99,116]\/(wordZ E j).toList=[109,97,112]\/(wordZ E j).toList=[99,104,97,110]\/(wordZ E j).toList=[105,110,116,101,114,102,97,99,101]
  .rcases hx21 with hx21|hx21|hx21|hx21|hx21;all_goals
    have hp21:=gP hx21 V;go_wp2_with fail;refine mX HF HS5 λw22 HS22=>?_;go_wp2_with fail;refine mOk HI.out.typ HS22 HP 2 λg23 k23 s23 p23 i23 w23 HS23 hi23 kp23=>?_;clear hx3 hn6 hn11 hx21 hp21 HS22;go_wp2_with fail;exact rK HQ HS23.out.pop2.pop2 kp23
  simp only[not_or]at hx21;obtain⟨hn24,hn25,hn26,hn27,hn28⟩:=hx21;replace hn24:=nq hn24;replace hn25:=nq hn25;replace hn26:=nq hn26;replace hn27:=nq hn27;replace hn28:=nq hn28;refine mS E j [60,45] (λhx29 hp29=>?_) λhn29=>?_
  .go_wp2_with fail;refine mX HF HS5 λw30 HS30=>?_;have hw1:IntKind.i64.wrap ((j:Int)+1)=(j:Int)+1:=wi64 _ Z;have c3:=HS30.out.r.c3;have z3:=HS30.out.r.z 3;go_wp2_with fail;refine mQ (yX HF.out HS30.out.r ((j:Int)+1) Z) HS30 λw31 HS31=>?_;clear hw1 c3 z3 HS30;cases hx32:((wordZ E ((j:Int)+1)).toList==[99,104,97,110])with
   |true =>
    go_wp2_with fail;refine mOk HI.out.typ HS31 HP 2 λg33 k33 s33 p33 i33 w33 HS33 hi33 kp33=>?_;clear hx3 hn6 hn11 hn24 hn25 hn26 hn27 hn28 hx29 hp29 hx32 HS31;go_wp2_with fail;exact rK HQ HS33.out.pop2.pop2 kp33
   |false =>
    go_wp2_with fail;exact mF HS31 HP 2
  go_wp2_with fail;refine mA HF HS5 HP 2 λg35 i35 w35 HS35 hi35=>?_;clear hx3 hn6 hn11 hn24 hn25 hn26 hn27 hn28 hn29 HS5;go_wp2_with fail;exact rK HQ HS35.out.pop2.pop2 (zIg (textZ E 26 (j:Int)))
theorem zSj{m:Nat}(HF:Hid (SynF E))(HI:Hid (IH E m)):Ok E 222 13 (-7) (m+1):=by
 refine okI HF λW j I Q HP HQ HS hN hj hm=>?_;go_enter Tryz.func222,Tryz.ntmps222;go_wp2_with fail;refine mP HS 38 λg1 w1 HS1=>?_;go_wp2_with fail;refine mO HI.out.value HS1 HP 2 λg2 k2 s2 p2 i2 w2 HS2 hi2=>?_;go_wp2_with fail;refine mM HF HS2 [58] (λi3 w3 HS3 hi3=>?_) λw3 HS3=>?_
 .go_wp2_with fail;refine mO HI.out.value HS3 HP 3 λg4 k4 s4 p4 i4 w4 HS4 hi4=>?_;go_wp2_with fail;refine mC HF [_,_] HS4 (gs2 HS4) (λw5 HS5=>?_);go_wp2_with fail;exact rQ HQ HS5.out.tl.tl
 go_wp2_with fail;exact rQ HQ HS3.out.pop2.pop2
theorem yAm{m:Nat}(HF:Hid (SynF E))(HI:Hid (IH E m)):Ok E 246 12 (-7) (m+1):=by
 refine okI HF λW j I Q HP HQ HS hN hj hm=>?_;go_enter Tryz.func246,Tryz.ntmps246;go_wp2_with fail;refine mX HF HS λw1 HS1=>?_;refine mS E j [123] (λhx2 hp2=>?_) λhn2=>?_
 .go_wp2_with fail;refine mP HS1 39 λg3 w3 HS3=>?_;go_wp2_with fail;refine mZ HS3 0 λg4 w4 HS4=>?_;go_wp2_with fail;refine mO HI.out.elements HS4 HP 3 λg5 k5 s5 p5 i5 w5 HS5 hi5=>?_;clear hx2 hp2 HS4;go_wp2_with fail;refine mC HF [_,_] HS5 (gs2 HS5) (λw6 HS6=>?_);go_wp2_with fail;exact rQ HQ HS6.out.tl.tl
 go_wp2_with fail;refine mO HI.out.expr HS1 HP 0 λg7 k7 s7 p7 i7 w7 HS7 hi7=>?_;clear hn2 HS1;go_wp2_with fail;exact rQ HQ HS7.out
end
section
variable {E:SynE}
theorem zMn{m:Nat}(HF:Hid (SynF E))(HI:Hid (IH E m)):Ok E 94 7 (-13) (m+1):=by
 refine okI HF λW j I Q HP HQ HS hN hj hm=>?_;go_enter Tryz.func94,Tryz.ntmps94;go_wp2_with fail;refine mP HS 9 λg1 w1 HS1=>?_;go_wp2_with fail;refine mO HI.out.params HS1 HP 2 λg2 k2 s2 p2 i2 w2 HS2 hi2=>?_;go_wp2_with fail;refine mZ HS2 0 λg3 w3 HS3=>?_;go_wp2_with fail;refine mX HF HS3 λw4 HS4=>?_;refine mS E i2 [40] (λhx5 hp5=>?_) λhn5=>?_
 .go_wp2_with fail;refine mO HI.out.params HS4 HP 4 λg6 k6 s6 p6 i6 w6 HS6 hi6=>?_;clear hx5 hp5 HS4;go_wp2_with fail;refine mC HF [_,_,_] HS6 (.cons (HS6.out.ok _ t2) (.cons (HS6.out.ok _ t0) (.nil _ _ _))) (λw7 HS7=>?_);go_wp2_with fail;exact rQ HQ HS7.out.tl.tl.tl
 by_cases hx8:(wordZ E i2).toList=[91]\/(wordZ E i2).toList=[42]\/(wordZ E i2).toList=[115,116,114,117,99,116]\/(wordZ E i2).toList=[109,97,112]\/(wordZ E i2).toList=[99,104,97,110]\/(wordZ E i2).toList=[105,110,116,101,114,102,97,99,101]\/(wordZ E i2).toList=[102,117,110,99]\/(wordZ E i2).toList=[60,45]
 .rcases hx8 with hx8|hx8|hx8|hx8|hx8|hx8|hx8|hx8;all_goals
   have hp8:=gP hx8 V;go_wp2_with fail;refine mO HI.out.typ HS4 HP 4 λg9 k9 s9 p9 i9 w9 HS9 hi9=>?_;clear hn5 hx8 hp8 HS4;go_wp2_with fail;refine mC HF [_,_,_] HS9 (.cons (HS9.out.ok _ t2) (.cons (HS9.out.ok _ t0) (.nil _ _ _))) (λw10 HS10=>?_);go_wp2_with fail;exact rQ HQ HS10.out.tl.tl.tl
 simp only[not_or]at hx8;obtain⟨hn11,hn12,hn13,hn14,hn15,hn16,hn17,hn18⟩:=hx8;replace hn11:=nq hn11;replace hn12:=nq hn12;replace hn13:=nq hn13;replace hn14:=nq hn14;replace hn15:=nq hn15;replace hn16:=nq hn16;replace hn17:=nq hn17;replace hn18:=nq hn18;have c3:=HS4.out.r.c3;have z3:=HS4.out.r.z 3;go_wp2_with fail;refine mQ (xS HF.out HS4.out.r ((i2:Int)) Z) HS4 λw19 HS19=>?_;clear c3 z3 HS4;cases hx20:namedB E (i2:Int)with
 |true =>
  go_wp2_with fail;refine mO HI.out.typ HS19 HP 4 λg21 k21 s21 p21 i21 w21 HS21 hi21=>?_;clear hn5 hn11 hn12 hn13 hn14 hn15 hn16 hn17 hn18 hx20 HS19;go_wp2_with fail;refine mC HF [_,_,_] HS21 (.cons (HS21.out.ok _ t2) (.cons (HS21.out.ok _ t0) (.nil _ _ _))) (λw22 HS22=>?_);go_wp2_with fail;exact rQ HQ HS22.out.tl.tl.tl
 |false =>
  go_wp2_with fail;refine mC HF [_,_] HS19 (gs2 HS19) (λw23 HS23=>?_);go_wp2_with fail;exact rQ HQ HS23.out.tl.tl
theorem zWs{m:Nat}(HF:Hid (SynF E))(HI:Hid (IH E m)):Ok E 109 2 (-15) (m+1):=by
 refine okI HF λW j I Q HP HQ HS hN hj hm=>?_;have hmf:=mkf;go_enter Tryz.func109,Tryz.ntmps109;go_wp2_with fail;refine mP HS 14 λg1 w1 HS1=>?_;go_wp2_with fail;refine mR1 HF HS1 [40] [44] [41] HI.out.param yBd HP 2 λa2 n2 c2 s2 p2 i2 w2 HS2 hi2=>?_;go_wp2_with fail;refine mW HF HS2 [41] HP 3 λi3 w3 HS3 hi3=>?_;go_wp2_with fail;refine mK (kT HF.out [_] HS3.out t0 (by simp;omega) ⟨Z,Z⟩ ⟨V,by simp[leastC]⟩) λw4 HS4=>?_;go_wp2_with fail;exact rQ HQ HS4.out.tl
theorem yAn{m:Nat}(HF:Hid (SynF E))(HI:Hid (IH E m)):Ok E 156 7 (-5) (m+1):=by
 refine okI HF λW j I Q HP HQ HS hN hj hm=>?_;go_enter Tryz.func156,Tryz.ntmps156;go_wp2_with fail;refine mP HS 15 λg1 w1 HS1=>?_;go_wp2_with fail;refine mZ HS1 0 λg2 w2 HS2=>?_;go_wp2_with fail;refine mT (yAx HF.out HS2.out.r) HS2 λbb w3 HS3=>?_;cases bb with
 |true =>
  go_wp2_with fail;refine mX HF HS3 λw4 HS4=>?_;refine mS E j [46,46,46] (λhx5 hp5=>?_) λhn5=>?_
  .obtain⟨c0,c1,c4,cz,cn,cn2⟩:=HS4.out.ncell t1;have c3:=HS4.out.r.c3;have z3:=HS4.out.r.z 3;have HS6:=Hd (HS4.out.setW [_] (j:Int));obtain⟨hw,-,-,i7,HS7,hi7⟩:=mI HS6 HS6 hN;go_wp2_with fail;refine mO HI.out.typ HS7 HP 3 λg8 k8 s8 p8 i8 w8 HS8 hi8=>?_;clear c0 c1 c4 cz cn cn2 c3 z3 HS4 hw HS6 hx5 hp5 HS7;go_wp2_with fail;refine mC HF [_,_] HS8 (gs2 HS8) (λw9 HS9=>?_);go_wp2_with fail;exact rQ HQ HS9.out.tl.tl
  go_wp2_with fail;refine mO HI.out.typ HS4 HP 3 λg10 k10 s10 p10 i10 w10 HS10 hi10=>?_;clear hn5 HS4;go_wp2_with fail;refine mC HF [_,_] HS10 (gs2 HS10) (λw11 HS11=>?_);go_wp2_with fail;exact rQ HQ HS11.out.tl.tl
 |false =>
  go_wp2_with fail;refine mA HF HS3 HP 3 λg12 i12 w12 HS12 hi12=>?_;go_wp2_with fail;refine mX HF HS12 λw13 HS13=>?_;refine mS E i12 [46,46,46] (λhx14 hp14=>?_) λhn14=>?_
  .obtain⟨c0,c1,c4,cz,cn,cn2⟩:=HS13.out.ncell t2;have c3:=HS13.out.r.c3;have z3:=HS13.out.r.z 3;have HS15:=Hd (HS13.out.setW [_,_] (i12:Int));obtain⟨hw,-,-,i16,HS16,hi16⟩:=mI HS15 HS15 hN;go_wp2_with fail;refine mO HI.out.typ HS16 HP 4 λg17 k17 s17 p17 i17 w17 HS17 hi17=>?_;clear c0 c1 c4 cz cn cn2 c3 z3 HS13 hw HS15 hx14 hp14 HS16;go_wp2_with fail;refine mC HF [_,_,_] HS17 (gs2 HS17) (λw18 HS18=>?_);go_wp2_with fail;exact rQ HQ HS18.out.tl.tl.tl
  go_wp2_with fail;refine mO HI.out.typ HS13 HP 4 λg19 k19 s19 p19 i19 w19 HS19 hi19=>?_;clear hn14 HS13;go_wp2_with fail;refine mC HF [_,_,_] HS19 (gs2 HS19) (λw20 HS20=>?_);go_wp2_with fail;exact rQ HQ HS20.out.tl.tl.tl
theorem zMo(HF:Hid (SynF E)){W:World}{j:Nat}{I:List Item}(HS:Hid (St E W j I)):Calls Tryz.prog 145 #[ptrV E.gr] W (PNd E I j 1):=by
 refine pnI HF HS λQ HP HQ hN hj=>?_;go_enter Tryz.func145,Tryz.ntmps145;have c3:=HS.out.r.c3;have z3:=HS.out.r.z 3;go_wp2_with fail;refine mQ (zDb HF.out HS.out.r (j:Int) Z) HS λw1 HS1=>?_;clear c3 z3 HS;cases hx2:quotedB E (j:Int)with
 |true =>
  go_wp2_with fail;refine mL (zHa HF.out HS1.out) HP 0 λg3 i3 w3 HS3 hi3=>?_;clear hx2 HS1;go_wp2_with fail;exact rQ HQ HS3.out
 |false =>
  go_wp2_with fail;refine mZ HS1 0 λg4 w4 HS4=>?_;go_wp2_with fail;exact rQ HQ HS4.out
theorem yAo{m:Nat}(HF:Hid (SynF E))(HI:Hid (IH E m)):Ok E 96 8 (-5) (m+1):=by
 refine okI HF λW j I Q HP HQ HS hN hj hm=>?_;go_enter Tryz.func96,Tryz.ntmps96;go_wp2_with fail;refine mP HS 22 λg1 w1 HS1=>?_;go_wp2_with fail;refine mX HF HS1 λw2 HS2=>?_;refine mS E j [42] (λhx3 hp3=>?_) λhn3=>?_
 .go_wp2_with fail;refine mP HS2 35 λg4 w4 HS4=>?_;obtain⟨hw,c3,z3,i5,HS5,hi5⟩:=mI HS4 HS4 hN;have d3:=HS5.out.r.c3;have y3:=HS5.out.r.z 3;go_wp2_with fail;refine mQ (xS HF.out HS5.out.r (i5:Int) Z) HS5 λw6 HS6=>?_;clear c3 z3 hw HS4 hx3 hp3 HS5;cases hx7:namedB E (i5:Int)with
  |true =>
   go_wp2_with fail;refine mO HI.out.typeName HS6 HP 4 λg8 k8 s8 p8 i8 w8 HS8 hi8=>?_;clear hx7 HS6;go_wp2_with fail;refine mC HF [_] HS8 (gs1 HS8) (λw9 HS9=>?_);go_wp2_with fail;refine mN (zMo HF HS9) HP 4 λg10 k10 s10 p10 i10 w10 HS10 hi10=>?_;go_wp2_with fail;refine mC HF [_,_,_] HS10 (.cons (HS10.out.ok _ t2) (.cons (HS10.out.ok _ t0) (.nil _ _ _))) (λw11 HS11=>?_);go_wp2_with fail;exact rQ HQ HS11.out.tl.tl.tl
  |false =>
   go_wp2_with fail;exact mF HS6 HP 4
 go_wp2_with fail;refine mT (zMp HF.out HS2.out.r) HS2 λbb w13 HS13=>?_;cases bb with
 |true =>
  go_wp2_with fail;refine mO HI.out.typeName HS13 HP 2 λg14 k14 s14 p14 i14 w14 HS14 hi14=>?_;clear hn3 HS13;go_wp2_with fail;refine mN (zMo HF HS14) HP 3 λg15 k15 s15 p15 i15 w15 HS15 hi15=>?_;go_wp2_with fail;refine mC HF [_,_] HS15 (gs2 HS15) (λw16 HS16=>?_);go_wp2_with fail;exact rQ HQ HS16.out.tl.tl
 |false =>
  obtain⟨c0,c1,c4,cz,cn,cn2⟩:=HS13.out.ncell t0;have HS17:=Hd (HS13.out.setK [] 21);go_wp2_with fail;refine mO HI.out.names HS17 HP 2 λg18 k18 s18 p18 i18 w18 HS18 hi18=>?_;clear c0 c1 c4 cz cn cn2 HS13 hn3 HS17;go_wp2_with fail;refine mO HI.out.typ HS18 HP 3 λg19 k19 s19 p19 i19 w19 HS19 hi19=>?_;go_wp2_with fail;refine mN (zMo HF HS19) HP 4 λg20 k20 s20 p20 i20 w20 HS20 hi20=>?_;go_wp2_with fail;refine mC HF [_,_,_] HS20 (gs3 HS20) (λw21 HS21=>?_);go_wp2_with fail;exact rQ HQ HS21.out.tl.tl.tl
theorem yEv{m:Nat}(HF:Hid (SynF E))(HI:Hid (IH E m)):Ok E 97 8 (-6) (m+1):=by
 refine okI HF λW j I Q HP HQ HS hN hj hm=>?_;go_enter Tryz.func97,Tryz.ntmps97;have c3:=HS.out.r.c3;have z3:=HS.out.r.z 3;go_wp2_with fail;refine mQ (xS HF.out HS.out.r ((j:Int)) Z) HS λw1 HS1=>?_;clear c3 z3 HS;cases hx2:namedB E (j:Int)with
 |true =>
  have hw1:IntKind.i64.wrap ((j:Int)+1)=(j:Int)+1:=wi64 _ Z;have c3:=HS1.out.r.c3;have z3:=HS1.out.r.z 3;go_wp2_with fail;refine mQ (yX HF.out HS1.out.r ((j:Int)+1) Z) HS1 λw3 HS3=>?_;clear hw1 c3 z3 HS1;cases hx4:((wordZ E ((j:Int)+1)).toList==[40])with
  |true =>
   go_wp2_with fail;refine mP HS3 24 λg5 w5 HS5=>?_;go_wp2_with fail;refine mA HF HS5 HP 2 λg6 i6 w6 HS6 hi6=>?_;clear hx2 hx4 HS5;go_wp2_with fail;refine mO HI.out.signature HS6 HP 3 λg7 k7 s7 p7 i7 w7 HS7 hi7=>?_;go_wp2_with fail;refine mC HF [_,_] HS7 (gs2 HS7) (λw8 HS8=>?_);go_wp2_with fail;exact rQ HQ HS8.out.tl.tl
  |false =>
   go_wp2_with fail;refine mO HI.out.union HS3 HP 0 λg9 k9 s9 p9 i9 w9 HS9 hi9=>?_;clear hx2 hx4 HS3;go_wp2_with fail;exact rQ HQ HS9.out
 |false =>
  go_wp2_with fail;refine mO HI.out.union HS1 HP 0 λg10 k10 s10 p10 i10 w10 HS10 hi10=>?_;clear hx2 HS1;go_wp2_with fail;exact rQ HQ HS10.out
theorem yHn{m:Nat}(HF:Hid (SynF E))(HI:Hid (IH E m)):Okk E 34 6 (-7) X1 (m+1):=by
 refine okK HF λW j I Q HP HQ HS hN hj hm=>?_;have hmf:=mkf;go_enter Tryz.func34,Tryz.ntmps34;go_wp2_with fail;refine mYk HI.out.anyType zSq HS HP 0 λg1 k1 s1 p1 i1 w1 HS1 hi1 kp1=>?_;go_wp2_with fail;exact rK HQ HS1.out kp1
theorem yAp{m:Nat}(HF:Hid (SynF E))(HI:Hid (IH E m)):Ok E 36 30 (1) (m+1):=by
 refine okI HF λW j I Q HP HQ HS hN hj hm=>?_;have hmf:=mkf;go_enter Tryz.func36,Tryz.ntmps36;go_wp2_with fail;refine mY HI.out.anyStmts zPu HS HP 0 λg1 k1 s1 p1 i1 w1 HS1 hi1=>?_;go_wp2_with fail;exact rQ HQ HS1.out
theorem yAq{m:Nat}(HF:Hid (SynF E))(HI:Hid (IH E m)):Ok E 111 2 (-14) (m+1):=by
 refine okI HF λW j I Q HP HQ HS hN hj hm=>?_;go_enter Tryz.func111,Tryz.ntmps111;go_wp2_with fail;refine mP HS 58 λg1 w1 HS1=>?_;go_wp2_with fail;refine mW HF HS1 [123] HP 2 λi2 w2 HS2 hi2=>?_;go_wp2_with fail;refine mO HI.out.stmts HS2 HP 2 λg3 k3 s3 p3 i3 w3 HS3 hi3=>?_;go_wp2_with fail;refine mW HF HS3 [125] HP 3 λi4 w4 HS4 hi4=>?_;go_wp2_with fail;refine mC HF [_] HS4 (gs1 HS4) (λw5 HS5=>?_);go_wp2_with fail;exact rQ HQ HS5.out.tl
theorem zPe{m:Nat}(HF:Hid (SynF E))(HI:Hid (IH E m)):OkN E 185 2 (-8) (m+1):=by
 refine okJ HF λW j I Q HP HQ HS hN hj hjN hm=>?_;go_enter Tryz.func185,Tryz.ntmps185;go_wp2_with fail;refine mP HS 68 λg1 w1 HS1=>?_;go_wp2_with fail;refine mO1 HI.out.group HS1 HP 2 λg2 k2 s2 p2 i2 w2 HS2 hi2=>?_;go_wp2_with fail;refine mC HF [_] HS2 (gs1 HS2) (λw3 HS3=>?_);go_wp2_with fail;exact rQ HQ HS3.out.tl
end
section
variable {E:SynE}
@[irreducible] def asRel(E:SynE)(I:List Item)(j:Nat)(kv:Value)(W:World):Prop :=
 ∃gs ps,∃i:Nat,(∃a n c,kv=.slice a n c)/\St E W i (.row kv gs ps::I)/\j<=i/\(ps.length:Int)<=8*((i:Int)-j)/\gs.length+j<=i
theorem zPh{m:Nat}(HF:Hid (SynF E))(HI:Hid (IH E m)):Ok E 57 29 (1) (m+1):=by
 refine okI HF λW j I Q HP HQ HS hN hj hm=>?_;go_enter Tryz.func57,Tryz.ntmps57;have HR:Hid (asRel E I j (.slice none 0 0) W):=Hd (by
  unfold asRel;exact⟨[],[],j,⟨_,_,_,rfl⟩,HS.out.nil,nR _,Ob,Ob⟩)
 go_wp2_with fail;go_loopw [3] (λkv wr=>asRel E I j kv wr) (λ_ wr=>E.N-rdAt E wr)
 case atStart=>exact HR.out
 case round =>
  unfold asRel at hrel;obtain⟨gs,ps,i,⟨va,vn,vc,rfl⟩,hst,hji,hps,hgs⟩:=hrel;have HS:=Hd hst;have hiN:=hst.r.le;have HM0:Hid (E.N-rdAt E wr=E.N-i):=Hd (by rw[HS.out.rdAt]);clear hst HR;go_wp2_with fail;refine mX HF HS λw1 HS1=>?_;by_cases hx2:(wordZ E i).toList=[125]\/(wordZ E i).toList=[99,97,115,101]\/(wordZ E i).toList=[100,101,102,97,117,108,116]
  .rcases hx2 with hx2|hx2|hx2;all_goals
    have hp2:=gP hx2 V;go_wp2_with fail;refine mD HF HS1 13 λg3 w3 HS3=>?_;go_wp2_with fail;exact rQ HQ HS3.out
  simp only[not_or]at hx2;obtain⟨hn4,hn5,hn6⟩:=hx2;replace hn4:=nq hn4;replace hn5:=nq hn5;replace hn6:=nq hn6;go_wp2_with fail;refine mQ (fQ HF.out HS1.out.r) HS1 λw7 HS7=>?_;cases hx8:endedB E i with
  |true =>
   go_wp2_with fail;refine mD HF HS7 13 λg9 w9 HS9=>?_;go_wp2_with fail;exact rQ HQ HS9.out
  |false =>
   refine mS E i [59] (λhx10 hp10=>?_) λhn10=>?_
   .go_wp2_with fail;refine mZ HS7 49 λg11 w11 HS11=>?_;obtain⟨v',w11a,hr,hs4,a4,n4,c4,rfl⟩:=St.append1 [_] HS11.out (.head _) Z;have HRUN:=Hd hr;have HS11a:=Hd hs4.tl;clear hr hs4;go_upto_region 10 with(at_builtin;refine zE rfl _ _ _ _ HRUN.out rfl rfl rfl rfl ?_);obtain⟨hw,c3,z3,i12,HS12,hi12⟩:=mI HS11a HS11a hN;have HR:Hid (asRel E I j (.slice a4 n4 c4) (w11a.setCell ⟨E.gr,3,none⟩ (.int .i64 ((i:Int)+1)))):=Hd (by
     unfold asRel;exact⟨_,_,_,⟨_,_,_,rfl⟩,HS12.out,Z,by(try simp only[lA,lC,lN]);omega,by simp;omega⟩)
    have HM:Hid (E.N-rdAt E (w11a.setCell ⟨E.gr,3,none⟩ (.int .i64 ((i:Int)+1)))<E.N-rdAt E wr):=Hd (by rw[HM0.out,HS12.out.rdAt];omega);go_wp2_with fail;exact⟨HR.out,HM.out⟩
   go_wp2_with fail;refine mO HI.out.stmt HS7 HP 1 λg13 k13 s13 p13 i13 w13 HS13 hi13=>?_;clear hn4 hn5 hn6 hx8 hn10 HS7;obtain⟨v',w13a,hr,hs4,a4,n4,c4,rfl⟩:=St.append1 [_] HS13.out (.head _) Z;have HRUN:=Hd hr;have HS13a:=Hd hs4.tl;clear hr hs4;go_upto_region 4 with(at_builtin;refine zE rfl _ _ _ _ HRUN.out rfl rfl rfl rfl ?_);go_wp2_with fail;refine mX HF HS13a λw14 HS14=>?_;refine mS E i13 [125] (λhx15 hp15=>?_) λhn15=>?_
   .have HR:Hid (asRel E I j (.slice a4 n4 c4) w14):=Hd (by
     unfold asRel;exact⟨_,_,_,⟨_,_,_,rfl⟩,HS14.out,Z,by(try simp only[lA,lC,lN]);omega,by simp;omega⟩)
    have HM:Hid (E.N-rdAt E w14<E.N-rdAt E wr):=Hd (by rw[HM0.out,HS14.out.rdAt];omega);go_wp2_with fail;exact⟨HR.out,HM.out⟩
   go_wp2_with fail;refine mQ (fQ HF.out HS14.out.r) HS14 λw16 HS16=>?_;cases hx17:endedB E i13 with
   |true =>
    have HR:Hid (asRel E I j (.slice a4 n4 c4) w16):=Hd (by
     unfold asRel;exact⟨_,_,_,⟨_,_,_,rfl⟩,HS16.out,Z,by(try simp only[lA,lC,lN]);omega,by simp;omega⟩)
    have HM:Hid (E.N-rdAt E w16<E.N-rdAt E wr):=Hd (by rw[HM0.out,HS16.out.rdAt];omega);go_wp2_with fail;exact⟨HR.out,HM.out⟩
   |false =>
    go_wp2_with fail;refine mW HF HS16 [59] HP 1 λi18 w18 HS18 hi18=>?_;clear hn15 hx17 HS16;have HR:Hid (asRel E I j (.slice a4 n4 c4) w18):=Hd (by
     unfold asRel;exact⟨_,_,_,⟨_,_,_,rfl⟩,HS18.out,Z,by(try simp only[lA,lC,lN]);omega,by simp;omega⟩)
    have HM:Hid (E.N-rdAt E w18<E.N-rdAt E wr):=Hd (by rw[HM0.out,HS18.out.rdAt];omega);go_wp2_with fail;exact⟨HR.out,HM.out⟩
def boolN:Value->Nat
 | .bool true=>1
 |_=>0
@[irreducible] def unRel(E:SynE)(I:List Item)(j:Nat)(kv mv:Value)(W:World):Prop :=
 ∃gs ps,∃i:Nat,∃b:Bool,mv=.bool b/\(∃a n c,kv=.slice a n c)/\St E W i (.row kv gs ps::I)/\j<=i/\(ps.length:Int)<=8*((i:Int)-j)-(if b then 0 else 7)/\gs.length+j<=i
theorem yAr{m:Nat}(HF:Hid (SynF E))(HI:Hid (IH E m)):Ok E 148 7 (-6) (m+1):=by
 refine okI HF λW j I Q HP HQ HS hN hj hm=>?_;go_enter Tryz.func148,Tryz.ntmps148;have HR:Hid (unRel E I j (.slice none 0 0) (.bool true) W):=Hd (by
  unfold unRel;exact⟨[],[],j,true,rfl,⟨_,_,_,rfl⟩,HS.out.nil,nR _,Ob,Ob⟩)
 go_wp2_with fail;go_loopw [3,4] (λkv mv wr=>unRel E I j kv mv wr) (λ_ mv wr=>2*(E.N-rdAt E wr)+boolN mv)
 case atStart=>exact HR.out
 case round =>
  unfold unRel at hrel;obtain⟨gs,ps,i,b,rfl,⟨va,vn,vc,rfl⟩,hst,hji,hps,hgs⟩:=hrel;have HS:=Hd hst;have hiN:=hst.r.le;clear hst HR;cases b with
  |false =>
   simp only[Bool.false_eq_true,if_false]at hps;go_wp2_with fail;refine mD HF HS 18 λg1 w1 HS1=>?_;go_wp2_with fail;exact rQ HQ HS1.out
  |true =>
   simp only[if_true]at hps;have HM0:Hid (2*(E.N-rdAt E wr)+boolN (.bool true)=2*(E.N-i)+1):=Hd (by rw[HS.out.rdAt];rfl);go_wp2_with fail;refine mP HS 19 λg2 w2 HS2=>?_;go_wp2_with fail;refine mM HF HS2 [126] (λi3 w3 HS3 hi3=>?_) λw3 HS3=>?_
   .go_wp2_with fail;refine mO HI.out.typ HS3 HP 3 λg4 k4 s4 p4 i4 w4 HS4 hi4=>?_;go_wp2_with fail;refine mC HF [_] HS4 (gs1 HS4) (λw5 HS5=>?_);have HS5b:=Hd (HS5.out.tl);obtain⟨v',w5a,hr,hs4,a4,n4,c4,rfl⟩:=St.append1 [_] HS5b.out (.head _) Z;have HRUN:=Hd hr;have HS5a:=Hd hs4.tl;clear hr hs4;clear HS5 HS5b;go_upto_region 4 with(at_builtin;refine zE rfl _ _ _ _ HRUN.out rfl rfl rfl rfl ?_);go_wp2_with fail;refine mM HF HS5a [124] (λi6 w6 HS6 hi6=>?_) λw6 HS6=>?_
    .have HR:Hid (unRel E I j (.slice a4 n4 c4) (.bool true) w6):=Hd (by
      unfold unRel;exact⟨_,_,_,true,rfl,⟨_,_,_,rfl⟩,HS6.out,Z,by(try simp only[lA,lC,lN]);simp;omega,by simp;omega⟩)
     have HM:Hid (2*(E.N-rdAt E w6)+boolN (.bool true)<2*(E.N-rdAt E wr)+boolN (.bool true)):=Hd (by rw[HM0.out,HS6.out.rdAt];simp[boolN];omega);go_wp2_with fail;exact⟨HR.out,HM.out⟩
    have HR:Hid (unRel E I j (.slice a4 n4 c4) (.bool false) w6):=Hd (by
     unfold unRel;exact⟨_,_,_,false,rfl,⟨_,_,_,rfl⟩,HS6.out,Z,by(try simp only[lA,lC,lN]);simp;omega,by simp;omega⟩)
    have HM:Hid (2*(E.N-rdAt E w6)+boolN (.bool false)<2*(E.N-rdAt E wr)+boolN (.bool true)):=Hd (by rw[HM0.out,HS6.out.rdAt];simp[boolN];omega);go_wp2_with fail;exact⟨HR.out,HM.out⟩
   go_wp2_with fail;refine mO HI.out.typ HS3 HP 3 λg7 k7 s7 p7 i7 w7 HS7 hi7=>?_;obtain⟨v',w7a,hr,hs4,a4,n4,c4,rfl⟩:=St.append1 [_,_,_] HS7.out (.head _) Z;have HRUN:=Hd hr;have HS7a:=Hd hs4.tl.tl.tl;clear hr hs4;go_upto_region 4 with(at_builtin;refine zE rfl _ _ _ _ HRUN.out rfl rfl rfl rfl ?_);go_wp2_with fail;refine mM HF HS7a [124] (λi8 w8 HS8 hi8=>?_) λw8 HS8=>?_
   .have HR:Hid (unRel E I j (.slice a4 n4 c4) (.bool true) w8):=Hd (by
     unfold unRel;exact⟨_,_,_,true,rfl,⟨_,_,_,rfl⟩,HS8.out,Z,by(try simp only[lA,lC,lN]);simp;omega,by simp;omega⟩)
    have HM:Hid (2*(E.N-rdAt E w8)+boolN (.bool true)<2*(E.N-rdAt E wr)+boolN (.bool true)):=Hd (by rw[HM0.out,HS8.out.rdAt];simp[boolN];omega);go_wp2_with fail;exact⟨HR.out,HM.out⟩
   have HR:Hid (unRel E I j (.slice a4 n4 c4) (.bool false) w8):=Hd (by
    unfold unRel;exact⟨_,_,_,false,rfl,⟨_,_,_,rfl⟩,HS8.out,Z,by(try simp only[lA,lC,lN]);simp;omega,by simp;omega⟩)
   have HM:Hid (2*(E.N-rdAt E w8)+boolN (.bool false)<2*(E.N-rdAt E wr)+boolN (.bool true)):=Hd (by rw[HM0.out,HS8.out.rdAt];simp[boolN];omega);go_wp2_with fail;exact⟨HR.out,HM.out⟩
@[irreducible] def biRel(E:SynE)(I:List Item)(j:Nat)(xv:Value)(W:World):Prop :=
 ∃g k gs ps,∃i:Nat,xv=ptrV g/\St E W i (.done g k gs ps::I)/\j<=i/\(ps.length:Int)<=8*((i:Int)-j)-7/\X1 ps
theorem zIb(x:List UInt8):lvZ x<=5:=by
 unfold lvZ
 repeat' split
 all_goals omega
theorem zWv{E:SynE}{j:Nat}(h:lvZ (wordZ E j).toList≠0):j+1<=E.N:=zBk (by intro e;rw[e]at h;exact h rfl)
theorem zWw{m:Nat}(HF:Hid (SynF E))(HI:Hid (IH E m)):∀least:Nat,1<=least->least<=6->∀W j I,St E W j I->64*(E.N-j)+10<m+1->Calls Tryz.prog 56 #[ptrV E.gr,.int .i64 (least:Int)] W (PNk E I j (-7) X1):=by
 intro least hl1 hl6 W j I h hm;have HS:=Hd h;clear h;refine pnK HF HS λQ HP HQ hN hj=>?_;go_enter Tryz.func56,Tryz.ntmps56;have c3:=HS.out.r.c3;have z3:=HS.out.r.z 3;go_wp2_with fail;refine mOk HI.out.unary HS HP 0 λg1 k1 s1 p1 i1 w1 HS1 hi1 kp1=>?_;clear c3 z3 HS;have HR:Hid (biRel E I j (ptrV g1) w1):=Hd (by
  unfold biRel;exact⟨_,_,_,_,_,rfl,HS1.out,Z,Z,kp1⟩)
 go_wp2_with fail;go_loopw [6] (λxv wr=>biRel E I j xv wr) (λ_ wr=>E.N-rdAt E wr)
 case atStart=>exact HR.out
 case round =>
  unfold biRel at hrel;obtain⟨g,kx,gs,ps,i,rfl,hst,hji,hps,hkx⟩:=hrel;have HS:=Hd hst;have hiN:=hst.r.le;have HM0:Hid (E.N-rdAt E wr=E.N-i):=Hd (by rw[HS.out.rdAt]);clear hst HR HS1;go_wp2_with fail;refine mX HF HS λw2 HS2=>?_;go_wp2_with fail;refine(zKz _ _).mono ?_;rintro e w3 ⟨rfl,rfl⟩;have hv:=zIb (wordZ E i).toList;have HVP:=Hd (λh=>zWv (E:=E) (j:=i) h);generalize lvZ (wordZ E i).toList=lv at *;by_cases hlt:lv<least
  .have hlt2:(lv:Int)<(least:Int):=Z;go_wp2_with fail;exact rK HQ HS2.out hkx
  have hlt2:¬(lv:Int)<(least:Int):=Z;have hp:=HVP.out Z;have hwl:IntKind.i64.wrap ((lv:Int)+1)=(lv:Int)+1:=wi64 _ Z;obtain⟨hw,c3,z3,i4,HS4,hi4⟩:=mI HS2 HS2 hN;go_wp2_with fail;refine mBik HI (lv+1) HS4 HP 1 λg5 k5 s5 p5 i5 w5 HS5 hi5 kp5=>?_;clear hwl hlt2 HVP c3 z3 hw HS2 HS4;have c3:=HS5.out.r.c3;have z3:=HS5.out.r.z 3;have HX:=Hd (St.close [] (((HS5.out.lit [g,g5] _ (.cons (HS5.out.ok _ (.tail _ (.head _))) (.cons (HS5.out.ok _ (.head _)) (.nil _ _ _))) Ob).new (nodeC 37 i j i5 (.slice (some ⟨w5.heap.size,0,none⟩) 2 2)))) ⟨Z,Z⟩ ⟨V,by simp[leastC]⟩);have HR:Hid (biRel E I j (ptrV (w5.heap.size+1)) ((w5.alloc (.cells #[ptrV g,ptrV g5] 41)).alloc (nodeC 37 i j i5 (.slice (some ⟨w5.heap.size,0,none⟩) 2 2)))):=Hd (by
   unfold biRel;have h:=HX.out.pop2.pop2;refine⟨_,_,_,_,_,Ob,h,Z,by simp;omega,by simpa[tz0]using yIt _ hkx kp5⟩)
  have HM:Hid (E.N-rdAt E ((w5.alloc (.cells #[ptrV g,ptrV g5] 41)).alloc (nodeC 37 i j i5 (.slice (some ⟨w5.heap.size,0,none⟩) 2 2)))<E.N-rdAt E wr):=Hd (by rw[HM0.out];rw[show rdAt E ((w5.alloc (.cells #[ptrV g,ptrV g5] 41)).alloc (nodeC 37 i j i5 (.slice (some ⟨w5.heap.size,0,none⟩) 2 2)))=i5 from HX.out.rdAt];omega);clear HX;go_wp2_with fail;exact⟨HR.out,HM.out⟩
end
section
variable {E:SynE}
theorem yFa{m:Nat}(HF:Hid (SynF E))(HI:Hid (IH E m)){W:World}{j:Nat}{I:List Item}{n k:Nat}{w f t:Int}{v:Value}{gs:List Nat}{ps:List Prt}(HS:Hid (St E W j (.raw n (nodeC k w f t v)::.row v gs ps::I)))(hw:w=-1)(hg:1<=gs.length/\gs.length<=100)(hjN:j+1<=E.N)(hm:64*(E.N-j)+0<m+1):Calls Tryz.prog 178 #[ptrV E.gr,ptrV n] W (PNm E I n (.tuple #[]) (j+1) ((ps.length:Int)+1) (λq=>gs.length=1->X1 ps->X1 q)):=by
 subst hw;refine nnK HF HS λQ HP HQ hN hj=>?_;go_enter Tryz.func178,Tryz.ntmps178;obtain⟨hw,c3,z3,i1,HS1,hi1⟩:=mI HS HS hN;go_wp2_with fail;refine mM HF HS1 [40] (λi2 w2 HS2 hi2=>?_) λw2 HS2=>?_
 .clear c3 z3 hw HS HS1;obtain⟨c0,c1,c4,cz,cn,cn2⟩:=HS2.out.ncell t0;have HS3:=Hd (HS2.out.setK [] 33);go_wp2_with fail;refine mM HF HS3 [116,121,112,101] (λi4 w4 HS4 hi4=>?_) λw4 HS4=>?_
  .clear c0 c1 c4 cz cn cn2 HS2 HS3;go_wp2_with fail;refine mW HF HS4 [41] HP 2 λi5 w5 HS5 hi5=>?_;go_wp2_with fail;refine mK (zIe HF.out [] HS5.out (by(try simp);try omega) ⟨Z,Z⟩ ⟨V,by(try simp[leastC]);try omega⟩) λw6 HS6=>?_;go_wp2_with fail;go_end0;exact rM HQ HS6.out (λ_ _=>fS)
  clear c0 c1 c4 cz cn cn2 HS2 HS3;obtain⟨c0,c1,c4,cz,cn,cn2⟩:=HS4.out.ncell t0;have HS7:=Hd (HS4.out.setK [] 32);go_upto_region 7 with(fail);have HS8d:=Hd (HS7.out.ext (bR _ _).drew);have hS0:(λX:World=>X.cell? ⟨n,4,none⟩=some (v)) (World.drew (w4.setCell ⟨n,0,none⟩ (.int .u8 32))):=(HS7.out.ncell t0).2.2.1;clear c0 c1 c4 cz cn cn2 HS4 HS7;refine zV (S:=λX=>X.cell? ⟨n,4,none⟩=some (v)) [11] Oa ?_;generalize World.drew (w4.setCell ⟨n,0,none⟩ (.int .u8 32))=wd at *;refine tF 0 32 (λ_=>hS0) ?_;refine tF 1 33 (λ_=>hS0) ?_;refine tF 2 34 (λ_=>hS0) ?_;refine tF 3 35 (λ_=>hS0) ?_;refine tU [8,11] 4 36 hS0 ?_;refine tF 5 37 (λ_=>hS0) ?_;refine rU 6 (some 38) λK hK=>?_;go_simp;refine mO HI.out.typ HS8d HP 2 λg9 k9 s9 p9 i9 w9 HS9 hi9=>?_;obtain⟨v',w9a,hr,hs4,a4,n4,c4,rfl⟩:=St.append1 [_,_] HS9.out (.head _) (by(try simp);try omega);have HRUN:=Hd hr;have HS9a:=Hd hs4;have hS1:(λX:World=>X.cell? ⟨n,4,none⟩=some (v)) w9:=(HS9.out.ncell t1).2.2.1;have hS2:(λX:World=>X.cell? ⟨n,4,none⟩=some (v)) (w9.alloc (.cells #[ptrV g9] 41)):=((HS9.out.ext ((bR _ _).alloc (nR _) _)).ncell t1).2.2.1;have hS3:(λX:World=>X.cell? ⟨n,4,none⟩=some (v)) w9a:=(hs4.ncell t1).2.2.1;have HZ:=Hd (hs4.ncell t1);clear hr hs4 hS0 HS8d;(try dsimp only)
  refine hK.out _ _ (λ_=>hS1) ?_;clear hK K;(try simp only[qA,qL,qZ,qS])
  refine rU 7 (some 39) λK hK=>?_;go_simp;refine hK.out _ _ (λ_=>hS2) ?_;clear hK K;(try simp only[qA,qL,qZ,qS])
  refine rU 8 (some 40) λK hK=>?_;refine xT _ _ _ _ HRUN.out rfl rfl rfl rfl ?_;refine hK.out _ _ (λ_=>hS3) ?_;clear hK K;(try simp only[qA,qL,qZ,qS])
  refine tF 9 41 (λ_=>hS3) ?_;refine tF 10 42 (λ_=>hS3) ?_;obtain⟨c0,c1,c4x,cz,cn,cn2⟩:=HZ.out;refine rU 11 none λK hK=>?_;go_simp;refine hK.out _ _ (λh=>Bool.noConfusion (h.symm.trans (by kernel_rfl:_=false))) ?_;clear hK K;(try simp only[qA,qL,qZ,qS])
  refine yK Oa ?_ _;clear hS1 hS2 hS3 HRUN HZ c0 c1 c4x cz;have HS10:=Hd (HS9a.out.setV [_] (.slice a4 n4 c4));clear HS9a;have hwz:∃wz,wz=w9a.setCell ⟨n,4,none⟩ (.slice a4 n4 c4):=⟨_,rfl⟩;obtain⟨wz10,hwz⟩:=hwz;rw[<-hwz]at HS10 ⊢;clear hwz;go_wp2_with fail;refine mW HF HS10 [41] HP 3 λi11 w11 HS11 hi11=>?_;go_wp2_with fail;refine mK (zIe HF.out [_] HS11.out (by(try simp);try omega) ⟨Z,Z⟩ ⟨V,by(try simp[leastC]);try omega⟩) λw12 HS12=>?_;go_wp2_with fail;go_end0;exact rM HQ HS12.out.tl (λ_ _=>fS)
 clear c3 z3 hw HS HS1;obtain⟨c0,c1,c4,cz,cn,cn2⟩:=HS2.out.ncell t0;have HS13:=Hd (HS2.out.setK [] 29);go_wp2_with fail;refine mA HF HS13 HP 2 λg14 i14 w14 HS14 hi14=>?_;clear c0 c1 c4 cz cn cn2 HS2 HS13;go_wp2_with fail;refine mC HF [_] HS14 (gs1 HS14) (λw15 HS15=>?_);go_wp2_with fail;go_end0;exact rM HQ HS15.out.tl (λhg hx=>by simpa[tz0,hg]using yBg (textZ E 26 (i1:Int)) hx)
theorem zLd{m:Nat}(HF:Hid (SynF E))(HI:Hid (IH E m)){W:World}{j:Nat}{I:List Item}{n k:Nat}{w f t:Int}{v:Value}{gs:List Nat}{ps:List Prt}{gl kl:Nat}{sl:List Nat}{pl:List Prt}(HS:Hid (St E W j (.done gl kl sl pl::.raw n (nodeC k w f t v)::.row v gs ps::I)))(hw:w=-1)(hg:1<=gs.length/\gs.length<=100)(hm:64*(E.N-j)+12<m+1):Calls Tryz.prog 219 #[ptrV E.gr,ptrV n,ptrV gl] W (PNm E I n (ptrV n) j ((ps.length:Int)+pl.length-5) (λq=>gs.length=1->X1 ps->X2 pl->X1 q)):=by
 subst hw;refine nnK HF HS λQ HP HQ hN hj=>?_;go_enter Tryz.func219,Tryz.ntmps219;obtain⟨c0,c1,c4,cz,cn,cn2⟩:=HS.out.ncell t1;have HS1:=Hd (HS.out.setK [_] 31);go_wp2_with fail;refine mZ HS1 0 λg2 w2 HS2=>?_;clear c0 c1 c4 cz cn cn2 HS HS1;go_wp2_with fail;refine mZ HS2 0 λg3 w3 HS3=>?_;go_wp2_with fail;refine mX HF HS3 λw4 HS4=>?_;refine mS E j [93] (λhx5 hp5=>?_) λhn5=>?_
 .go_wp2_with fail;refine mW HF HS4 [93] HP 5 λi6 w6 HS6 hi6=>?_;clear hx5 hp5 HS4;go_wp2_with fail;refine mC HF [_,_,_] HS6 (gs3 HS6) (λw7 HS7=>?_);go_wp2_with fail;exact rM HQ HS7.out.tl.tl.tl (λhg hx hl=>by simpa[tz0,hg]using zMv hx hl (x_nn E) (x_nn E) (λ_=>by rw[tz0 E 0 V]))
 go_wp2_with fail;refine mOk HI.out.expr HS4 HP 5 λg8 k8 s8 p8 i8 w8 HS8 hi8 kp8=>?_;clear hn5 HS4;go_wp2_with fail;refine mZ HS8 0 λg9 w9 HS9=>?_;go_wp2_with fail;refine mM HF HS9 [58] (λi10 w10 HS10 hi10=>?_) λw10 HS10=>?_
 .go_wp2_with fail;refine mOk HI.out.expr HS10 HP 7 λg11 k11 s11 p11 i11 w11 HS11 hi11 kp11=>?_;go_wp2_with fail;refine mW HF HS11 [93] HP 8 λi12 w12 HS12 hi12=>?_;go_wp2_with fail;refine mC HF [_,_,_,_,_,_] HS12 (.cons (HS12.out.ok _ t5) (.cons (HS12.out.ok _ t2) (.cons (HS12.out.ok _ t0) (.nil _ _ _)))) (λw13 HS13=>?_);go_wp2_with fail;exact rM HQ HS13.out.tl.tl.tl.tl.tl.tl (λhg hx hl=>by simpa[tz0,hg]using zMv hx hl (X1.two (kp8)) (X1.two (kp11)) (λe=>absurd e (X1.ne (kp8))))
 go_wp2_with fail;refine mW HF HS10 [93] HP 7 λi14 w14 HS14 hi14=>?_;go_wp2_with fail;refine mC HF [_,_,_,_,_] HS14 (.cons (HS14.out.ok _ t4) (.cons (HS14.out.ok _ t1) (.cons (HS14.out.ok _ t0) (.nil _ _ _)))) (λw15 HS15=>?_);go_wp2_with fail;exact rM HQ HS15.out.tl.tl.tl.tl.tl (λhg hx hl=>by simpa[tz0,hg]using zMv hx hl (X1.two (kp8)) (x_nn E) (λ_=>by rw[tz0 E 0 V]))
@[irreducible] def ixRel(E:SynE)(I:List Item)(j:Nat)(b:Int)(kv:Value)(W:World):Prop :=
 ∃gs ps,∃i:Nat,(∃a n c,kv=.slice a n c)/\St E W i (.row kv gs ps::I)/\j<=i/\(ps.length:Int)<=8*((i:Int)-j)+b/\gs.length+j<=i+1/\1<=gs.length/\RowK X1 gs.length ps
theorem zXa{m:Nat}(HF:Hid (SynF E))(HI:Hid (IH E m)){W:World}{j:Nat}{I:List Item}{n k:Nat}{w f t:Int}{v:Value}{gs:List Nat}{ps:List Prt}(HS:Hid (St E W j (.raw n (nodeC k w f t v)::.row v gs ps::I)))(hw:w=-1)(hg:1<=gs.length/\gs.length<=100)(hjN:j+1<=E.N)(hm:64*(E.N-j)+0<m+1):Calls Tryz.prog 182 #[ptrV E.gr,ptrV n] W (PNm E I n (ptrV n) (j+1) ((ps.length:Int)+1) (λq=>gs.length=1->X1 ps->X1 q)):=by
 subst hw;refine nnK HF HS λQ HP HQ hN hj=>?_;go_enter Tryz.func182,Tryz.ntmps182;obtain⟨c0,c1,c4,cz,cn,cn2⟩:=HS.out.ncell t0;have HS1:=Hd (HS.out.setK [] 30);obtain⟨hw,c3,z3,i2,HS2,hi2⟩:=mI HS HS1 hN;go_wp2_with fail;refine mZ HS2 0 λg3 w3 HS3=>?_;clear c0 c1 c4 cz cn cn2 HS c3 z3 hw HS1 HS2;go_wp2_with fail;refine mX HF HS3 λw4 HS4=>?_;refine mS E i2 [58] (λhx5 hp5=>?_) λhn5=>?_
 .have HX:=Hd hx5;go_wp2_with fail;refine mMf HF HS4 [58] (λi6 w6 HS6 hi6=>?_) λw6 HS6 hff=>?_
  .clear hx5 hp5 HS4;go_wp2_with fail;refine mEk (zLd HF HI HS6 rfl hg Z) HP 0 λk7 s7 p7 i7 w7 HS7 hi7 kp7=>?_;go_wp2_with fail;exact rM HQ HS7.out (λhg hx=>kp7 hg hx (x_nn E))
  exact absurd hff (by unfold isW;rw[HX.out];simp)
 go_wp2_with fail;refine mOk HI.out.expr HS4 HP 3 λg8 k8 s8 p8 i8 w8 HS8 hi8 kp8=>?_;clear hn5 HS4;go_wp2_with fail;refine mM HF HS8 [58] (λi9 w9 HS9 hi9=>?_) λw9 HS9=>?_
 .have HSp:=Hd HS9.out.pop2;clear HS9;go_wp2_with fail;refine mEk (zLd HF HI HSp rfl hg Z) HP 0 λk10 s10 p10 i10 w10 HS10 hi10 kp10=>?_;go_wp2_with fail;exact rM HQ HS10.out (λhg hx=>kp10 hg hx (X1.two (kp8)))
 go_wp2_with fail;have HR:Hid (ixRel E (.done g8 k8 s8 p8::_) i8 (p8.length:Int) (.slice (some ⟨w9.heap.size,0,none⟩) 1 1) (w9.alloc (.cells #[ptrV g8] 41))):=Hd (by
  unfold ixRel;exact⟨[g8],_,i8,⟨_,_,_,rfl⟩,(HS9.out.lit [g8] _ (by have:=GoodS.cons (HS9.out.ok _ (.head _)) (GoodS.nil _ _ _);simpa using this) Ob),Z,Z,by simp only[lC,lN];omega,Ob,by simpa using RowK.nil.snoc (κ:=X1) (p:=p8) kp8⟩)
 go_loopw [6] (λkv wr=>ixRel E _ i8 (p8.length:Int) kv wr) (λ_ wr=>E.N-rdAt E wr)
 case atStart=>exact HR.out
 case round =>
  unfold ixRel at hrel;obtain⟨gx,px,i,⟨va,vn,vc,rfl⟩,hst,hji,hps,hgs,hg1,hrk⟩:=hrel;have HRK:=Hd hrk;have HSr:=Hd hst;have hiN:=hst.r.le;have HM0:Hid (E.N-rdAt E wr=E.N-i):=Hd (by rw[HSr.out.rdAt]);clear hst HR hrk HS9;go_wp2_with fail;refine mX HF HSr λw11 HS11=>?_;refine mS E i [44] (λhx12 hp12=>?_) λhn12=>?_
  .have hw1:IntKind.i64.wrap ((i:Int)+1)=(i:Int)+1:=wi64 _ Z;have c3:=HS11.out.r.c3;have z3:=HS11.out.r.z 3;go_wp2_with fail;refine mQ (yX HF.out HS11.out.r ((i:Int)+1) Z) HS11 λw13 HS13=>?_;clear hw1 c3 z3 HS11;cases hx14:((wordZ E ((i:Int)+1)).toList==[93])with
   |true =>
    go_wp2_with fail;refine mD HF HS13 11 λg15 w15 HS15=>?_;go_wp2_with fail;refine mM HF HS15 [44] (λi16 w16 HS16 hi16=>?_) λw16 HS16=>?_
    .clear hx12 hp12 hx14 HS15;go_wp2_with fail;refine mW HF HS16 [93] HP 5 λi17 w17 HS17 hi17=>?_;go_wp2_with fail;refine mC HF [_,_,_] HS17 (gs1 HS17) (λw18 HS18=>?_);go_wp2_with fail;exact rM HQ HS18.out.tl.tl.tl (λhg hx=>by simpa[tz0,hg]using zCa hx (XS.mk hg1 HRK.out))
    go_wp2_with fail;refine mW HF HS16 [93] HP 5 λi19 w19 HS19 hi19=>?_;clear hx12 hp12 hx14 HS16;go_wp2_with fail;refine mC HF [_,_,_] HS19 (gs1 HS19) (λw20 HS20=>?_);go_wp2_with fail;exact rM HQ HS20.out.tl.tl.tl (λhg hx=>by simpa[tz0,hg]using zCa hx (XS.mk hg1 HRK.out))
   |false =>
    obtain⟨hw,c3,z3,i21,HS21,hi21⟩:=mI HS13 HS13 hN;go_wp2_with fail;refine mOk HI.out.expr HS21 HP 5 λg22 k22 s22 p22 i22 w22 HS22 hi22 kp22=>?_;clear c3 z3 hw HS13 hx12 hp12 hx14 HS21;obtain⟨v',w22a,hr,hs4,a4,n4,c4,rfl⟩:=St.append1 [_] HS22.out (.head _) Z;have HRUN:=Hd hr;have HR:Hid (ixRel E _ i8 (p8.length:Int) (.slice a4 n4 c4) w22a):=Hd (by
     unfold ixRel;exact⟨_,_,_,⟨_,_,_,rfl⟩,hs4.tl,Z,by(try simp only[lA,lC,lN]);omega,by simp;omega,Ob,by rw[lA];exact HRK.out.snoc kp22⟩)
    have HM:Hid (E.N-rdAt E w22a<E.N-rdAt E wr):=Hd (by rw[HM0.out,hs4.rdAt];omega);clear hr hs4;go_wp2_with (at_builtin;refine zE rfl _ _ _ _ HRUN.out rfl rfl rfl rfl ?_);exact⟨HR.out,HM.out⟩
  go_wp2_with fail;refine mD HF HS11 11 λg23 w23 HS23=>?_;go_wp2_with fail;refine mM HF HS23 [44] (λi24 w24 HS24 hi24=>?_) λw24 HS24=>?_
  .clear hn12 HS23;go_wp2_with fail;refine mW HF HS24 [93] HP 5 λi25 w25 HS25 hi25=>?_;go_wp2_with fail;refine mC HF [_,_,_] HS25 (gs1 HS25) (λw26 HS26=>?_);go_wp2_with fail;exact rM HQ HS26.out.tl.tl.tl (λhg hx=>by simpa[tz0,hg]using zCa hx (XS.mk hg1 HRK.out))
  go_wp2_with fail;refine mW HF HS24 [93] HP 5 λi27 w27 HS27 hi27=>?_;clear hn12 HS24;go_wp2_with fail;refine mC HF [_,_,_] HS27 (gs1 HS27) (λw28 HS28=>?_);go_wp2_with fail;exact rM HQ HS28.out.tl.tl.tl (λhg hx=>by simpa[tz0,hg]using zCa hx (XS.mk hg1 HRK.out))
end
section
variable {E:SynE}
abbrev callI(E:SynE)(nb rb n:Nat)(f:Int)(v:Value)(gs:List Nat)(ps:List Prt)(I:List Item)(z:Int):List Item:=.raw nb (.cells #[ptrV n] 41 (0,0))::.raw rb (.cells #[ptrV E.gr] 44 (0,0))::.raw n (nodeC 34 (cw E z) f 0 v)::.row v gs ps::I
theorem PNw.q(E:SynE)(I:Int->List Item)(j:Nat)(a:Int):∃Q,PNw E I j a X1=Q/\Hid (∀W i z,St E W i (I z)->Q (panE i) W)/\Hid (∀W g k gs ps i z,St E W i (.done g k gs ps::I z)->j<=i->(ps.length:Int)<=8*((i:Int)-j)+a->X1 ps->Q (.returned (ptrV g)) W) :=
 ⟨_,rfl,Hd (λW i z h=>PNw.pn h),Hd (λW g k gs ps i z h h1 h2 h3=>PNw.mk h h1 h2 h3)⟩
theorem zPw(E:SynE):cw E (-1)=-1:=by unfold cw;split<;>rfl
theorem zXb{m:Nat}(HF:Hid (SynF E))(HI:Hid (IH E m)){W:World}{j:Nat}{J:Item}{I:List Item}{nb rb n:Nat}{f z:Int}{v:Value}{gs:List Nat}{ps:List Prt}(HS:Hid (St E W j (J::callI E nb rb n f v gs ps I z)))(hm:64*(E.N-j)+12<m+1):Calls Tryz.prog 218 #[ptrV nb,ptrV rb] W (PNw E (λz=>J::callI E nb rb n f v gs ps I z) j (-7) X1):=by
 obtain⟨Q,hQ,HP,HQ⟩:=PNw.q E (λz=>J::callI E nb rb n f v gs ps I z) j (-7);rw[hQ];clear hQ;have hN:=SynF.N HF;have hj:=HS.out.r.le;have hcw:=yBa E z;by_cases h0:0<=cw E z
 .go_enter Tryz.func218,Tryz.ntmps218;obtain⟨c0,c1,c4,cz,cn,cn2⟩:=HS.out.ncell t3;have b_nb:=HS.out.box t1;have b_rb:=HS.out.box t2;have HX:=Hd (λw hb=>HP.out w _ _ (HS.out.ext hb));go_wp2_with fail;refine(fR HS.out.r).mono ?_;rintro e w ⟨rfl,hb⟩;exact⟨rfl,HX.out _ hb⟩
 go_enter Tryz.func218,Tryz.ntmps218;obtain⟨c0,c1,c4,cz,cn,cn2⟩:=HS.out.ncell t3;have b_nb:=HS.out.box t1;have b_rb:=HS.out.box t2;go_wp2_with fail;refine mVk (HI.out.expr _ _ _ HS.out Z) (λi W' hs=>⟨rfl,HP.out _ _ _ hs⟩) λg2 k2 s2 p2 i2 w2 HS2 hi2 kp2=>?_;clear c0 c1 c4 cz cn cn2 b_nb b_rb HS;have b_nb:=HS2.out.box t2;have b_rb:=HS2.out.box t3;go_wp2_with fail;refine mX HF HS2 λw3 HS3=>?_;clear b_nb b_rb HS2;refine mS E i2 [46,46,46] (λhx4 hp4=>?_) λhn4=>?_
 .obtain⟨c0,c1,c4,cz,cn,cn2⟩:=HS3.out.ncell t4;have c3:=HS3.out.r.c3;have z3:=HS3.out.r.z 3;have b_nb:=HS3.out.box t2;have b_rb:=HS3.out.box t3;have hcw2:=yGo (E:=E) (i:=i2) Z;have HSw:=Hd (HS3.out.setW [_,_,_,_] (i2:Int));go_upto_region 5 with(fail);go_still_tail 7,Oa;go_upto_region 6 with(fail);have HSd:=Hd (HSw.out.ext (bR _ _).drew);clear c0 c1 c4 cz cn cn2 c3 z3 b_nb b_rb HSw HS3;generalize World.drew (World.setCell w3 ⟨n,1,none⟩ (.int .i64 (i2:Int)))=wd at *;obtain⟨hw,c3,z3,i5,HS5,hi5⟩:=mI HSd HSd hN;have b_nb:=HSd.out.box t2;have d_nbHS5:=HS5.out.box t2;have b_rb:=HSd.out.box t3;have d_rbHS5:=HS5.out.box t3;go_wp2_with fail;refine HQ.out _ _ _ _ _ _ (i2:Int) (by rw[callI,hcw2];exact HS5.out) Z Z kp2
 have b_nb:=HS3.out.box t2;have b_rb:=HS3.out.box t3;go_wp2_with fail;exact HQ.out _ _ _ _ _ _ z HS3.out Z Z kp2
theorem yBh{m:Nat}(HF:Hid (SynF E))(HI:Hid (IH E m)){W:World}{j:Nat}{I:List Item}{n k:Nat}{w f:Int}{v:Value}{gs:List Nat}{ps:List Prt}(HS:Hid (St E W j (.raw n (nodeC k w f 0 v)::.row v gs ps::I)))(hw:w=-1)(hg:1<=gs.length/\gs.length<=100)(hjN:j+1<=E.N)(hm:64*(E.N-j)+0<m+1):Calls Tryz.prog 180 #[ptrV E.gr,ptrV n] W (PNm E I n (ptrV n) (j+1) ((ps.length:Int)+1) (λq=>gs.length=1->X1 ps->X1 q)):=by
 subst hw;refine nnK HF HS λQ HP HQ hN hj=>?_;have hmf:=mkf;go_enter Tryz.func180,Tryz.ntmps180;have HS0:=Hd ((HS.out.new (.cells #[ptrV E.gr] 44)).new (.cells #[ptrV n] 41));rw[show(W.alloc (.cells #[ptrV E.gr] 44)).heap.size=W.heap.size+1 by simp]at HS0;clear HS;go_upto_region 1 with(fail);generalize(W.alloc (.cells #[ptrV E.gr] 44)).alloc (.cells #[ptrV n] 41)=wb at *;generalize W.heap.size+1=nb at *;generalize W.heap.size=rb at *;have e1:nb≠n:=HS0.out.ne t1 rfl rfl;have e2:rb≠n:=HS0.out.tl.ne t0 rfl rfl;obtain⟨c0,c1,c4,cz,cn,cn2⟩:=HS0.out.ncell t2;have HS1:=Hd (HS0.out.setK [_,_] 34);have b_nb:=HS0.out.box t0;have d_nbHS1:=HS1.out.box t0;have b_rb:=HS0.out.box t1;have d_rbHS1:=HS1.out.box t1;go_wp2_with fail;have HSc:Hid (St E _ j (callI E nb rb n f v gs ps I (-1))):=Hd (by rw[callI,zPw];exact HS1.out);refine(zPr HF.out (callI E nb rb n f v gs ps I) (-1) HSc.out [40] [44] [41] V V V (FnV.clos (k:=218) Tryz.func218 Oa rfl #[ptrV nb,ptrV rb]) (-7) V (λW' i x kv gs ps h1 h2=>zXb HF HI (Hd h2) (by have:=h2.r.le;omega))).mono ?_;intro e w2 h2;rcases h2.go with⟨z,i2,rfl,hs⟩|⟨a2,n2,c2,s2,p2,z,i2,rfl,HS2,hi2,hrk,hz0⟩
 .exact⟨rfl,HP.out _ _ hs.tl.tl.tl.tl⟩
 have hcw:=yBa E z;have HRK:=Hd hrk;have HZ0:=Hd hz0;clear hrk hz0;clear h2 c0 c1 c4 cz cn cn2 HS0 b_nb d_nbHS1 b_rb d_rbHS1 HSc HS1;have b_nb:=HS2.out.box t1;have b_rb:=HS2.out.box t2;go_wp2_with fail;refine mD HF HS2 11 λg3 w3 HS3=>?_;clear b_nb b_rb HS2;have b_nb:=HS3.out.box t1;have b_rb:=HS3.out.box t2;go_wp2_with fail;refine mW HF HS3 [41] HP 5 λi4 w4 HS4 hi4=>?_;clear b_nb b_rb HS3;have b_nb:=HS4.out.box t1;have b_rb:=HS4.out.box t2;go_wp2_with fail;refine mC HF [_,_,_] HS4 (gs1 HS4) (λw5 HS5=>?_) (hw:=hcw);clear b_nb b_rb HS4;have b_nb:=HS5.out.box t1;have b_rb:=HS5.out.box t2;go_wp2_with fail;exact rM HQ HS5.out.tl.tl.tl (λhg hx=>by simpa[tz0,hg]using yHr (textZ E 34 (cw E z)) hx (XS0.mk HRK.out) (λhne=>Nat.pos_of_ne_zero λh0=>hne (by rw[(HZ0.out h0).1,zPw,tz0 E 34 V])))
theorem PNn.shape{I:List Item}{n:Nat}{v:Value}{j:Nat}{b:Int}{κ:List Prt->Prop}{e:Ending}{W':World}(h:PNm E I n v j b κ e W'):e=.returned v\/∃i,e=panE i:=by
 rcases h.go with⟨i,rfl,_⟩|⟨k,gs,ps,i,rfl,_⟩
 .exact Or.inr ⟨i,rfl⟩
 .exact Or.inl rfl
@[irreducible] def prRel(E:SynE)(I:List Item)(j:Nat)(xv:Value)(W:World):Prop :=
 ∃g k gs ps,∃i:Nat,xv=ptrV g/\St E W i (.done g k gs ps::I)/\j<=i/\(ps.length:Int)<=8*((i:Int)-j)-7/\X1 ps
theorem zMw{m:Nat}(HF:Hid (SynF E))(HI:Hid (IH E m)){W:World}{j:Nat}{I:List Item}{rb nb n k:Nat}{w f:Int}{v:Value}{gs:List Nat}{ps:List Prt}(HS:Hid (St E W j (.raw n (nodeC k w f 0 v)::.row v gs ps::I)))(hw:w=-1)(hg:1<=gs.length/\gs.length<=100)(hb:.raw rb (.cells #[ptrV E.gr] 44 (0,0))∈I)(hn:.raw nb (.cells #[ptrV n] 41 (0,0))∈I)(hjN:j+1<=E.N)(hm:64*(E.N-j)+0<m+1):Calls Tryz.prog 179 #[ptrV rb,ptrV nb] W (PNm E I n (ptrV n) (j+1) ((ps.length:Int)+1) (λq=>gs.length=1->X1 ps->X1 q)):=by
 have b0:=HS.out.box (.tail _ (.tail _ hb));have b1:=HS.out.box (.tail _ (.tail _ hn));have HC:=Hd (yBh HF HI HS hw hg hjN hm);have HX:=Hd (λe w h=>PNn.shape (E:=E) (I:=I) (n:=n) (v:=ptrV n) (j:=j+1) (b:=(ps.length:Int)+1) (κ:=λq=>gs.length=1->X1 ps->X1 q) (e:=e) (W':=w) h);generalize PNm E I n (ptrV n) (j+1) ((ps.length:Int)+1) (λq=>gs.length=1->X1 ps->X1 q)=Q at *;clear HS HF HI hb hn;go_enter Tryz.func179,Tryz.ntmps179;go_wp2_with fail;refine HC.out.mono ?_;intro e w1 h1;rcases HX.out _ _ h1 with rfl|⟨i,rfl⟩
 .go_wp2_with fail;exact h1
 .exact⟨rfl,h1⟩
theorem zMx{m:Nat}(HF:Hid (SynF E))(HI:Hid (IH E m)){W:World}{j:Nat}{I:List Item}{rb nb n k:Nat}{w f:Int}{v:Value}{gs:List Nat}{ps:List Prt}(HS:Hid (St E W j (.raw n (nodeC k w f 0 v)::.row v gs ps::I)))(hw:w=-1)(hg:1<=gs.length/\gs.length<=100)(hb:.raw rb (.cells #[ptrV E.gr] 44 (0,0))∈I)(hn:.raw nb (.cells #[ptrV n] 41 (0,0))∈I)(hjN:j+1<=E.N)(hm:64*(E.N-j)+0<m+1):Calls Tryz.prog 181 #[ptrV rb,ptrV nb] W (PNm E I n (ptrV n) (j+1) ((ps.length:Int)+1) (λq=>gs.length=1->X1 ps->X1 q)):=by
 have b0:=HS.out.box (.tail _ (.tail _ hb));have b1:=HS.out.box (.tail _ (.tail _ hn));have HC:=Hd (zXa HF HI HS hw hg hjN hm);have HX:=Hd (λe w h=>PNn.shape (E:=E) (I:=I) (n:=n) (v:=ptrV n) (j:=j+1) (b:=(ps.length:Int)+1) (κ:=λq=>gs.length=1->X1 ps->X1 q) (e:=e) (W':=w) h);generalize PNm E I n (ptrV n) (j+1) ((ps.length:Int)+1) (λq=>gs.length=1->X1 ps->X1 q)=Q at *;clear HS HF HI hb hn;go_enter Tryz.func181,Tryz.ntmps181;go_wp2_with fail;refine HC.out.mono ?_;intro e w1 h1;rcases HX.out _ _ h1 with rfl|⟨i,rfl⟩
 .go_wp2_with fail;exact h1
 .exact⟨rfl,h1⟩
theorem zSs{m:Nat}(HF:Hid (SynF E))(HI:Hid (IH E m)):Okk E 149 8 (-7) X1 (m+1):=by
 refine okK HF λW j I Q HP HQ HS hN hj hm=>?_;have hmf:=mkf;go_enter Tryz.func149,Tryz.ntmps149;have HS0:=Hd (HS.out.new (.cells #[ptrV E.gr] 44));clear HS;go_upto_region 1 with(fail);generalize W.alloc (.cells #[ptrV E.gr] 44)=wb at *;generalize W.heap.size=rb at *;have c3:=HS0.out.r.c3;have z3:=HS0.out.r.z 3;have b_rb:=HS0.out.box t0;go_wp2_with fail;refine mOk HI.out.operand HS0 HP 1 λg1 k1 s1 p1 i1 w1 HS1 hi1 kp1=>?_;clear c3 z3 b_rb HS0;have HR:Hid (prRel E (.raw rb (.cells #[ptrV E.gr] 44 (0,0))::I) j (ptrV g1) w1):=Hd (by
  unfold prRel;exact⟨_,_,_,_,_,rfl,HS1.out,Z,Z,kp1⟩)
 have b_rb:=HS1.out.box t1;go_wp2_with fail;go_loopw [4] (λxv wr=>prRel E (.raw rb (.cells #[ptrV E.gr] 44 (0,0))::I) j xv wr) (λ_ wr=>E.N-rdAt E wr)
 case atStart=>exact HR.out
 case round =>
  unfold prRel at hrel;obtain⟨g,kx,gs,ps,i,rfl,hst,hji,hps,hkx⟩:=hrel;have HKX:=Hd hkx;have HS:=Hd hst;have hiN:=hst.r.le;have HM0:Hid (E.N-rdAt E wr=E.N-i):=Hd (by rw[HS.out.rdAt]);clear hst HR hkx HS1;have HSa:=Hd (((HS.out.lit [g] _ (by have:=GoodS.cons (HS.out.ok _ (.head _)) (GoodS.nil _ _ _);simpa using this) Ob).new (nodeC 0 (-1) j 0 (.slice (some ⟨wr.heap.size,0,none⟩) 1 1))).new (.cells #[ptrV (wr.heap.size+1)] 41));rw[show(wr.alloc (.cells (ptrsV [g]).toArray 41)).heap.size=wr.heap.size+1 by simp,show((wr.alloc (.cells (ptrsV [g]).toArray 41)).alloc (nodeC 0 (-1) j 0 (.slice (some ⟨wr.heap.size,0,none⟩) 1 1))).heap.size=wr.heap.size+1+1 by simp]at HSa;clear HS;go_upto_region 4 with(fail);have HSb:Hid (St E (((wr.alloc (.cells #[ptrV g] 41)).alloc (nodeC 0 (-1) j 0 (.slice (some ⟨wr.heap.size,0,none⟩) 1 1))).alloc (.cells #[ptrV (wr.heap.size+1)] 41)) i (.raw (wr.heap.size+1+1) (.cells #[ptrV (wr.heap.size+1)] 41 (0,0))::.raw (wr.heap.size+1) (nodeC 0 (-1) j 0 (.slice (some ⟨wr.heap.size,0,none⟩) 1 1))::.row (.slice (some ⟨wr.heap.size,0,none⟩) 1 1) [g] ps::.done g kx gs ps::.raw rb (.cells #[ptrV E.gr] 44 (0,0))::I)):=Hd HSa.out;clear HSa;generalize((wr.alloc (.cells #[ptrV g] 41)).alloc (nodeC 0 (-1) j 0 (.slice (some ⟨wr.heap.size,0,none⟩) 1 1))).alloc (.cells #[ptrV (wr.heap.size+1)] 41)=wc at *;generalize wr.heap.size+1+1=nb at *;generalize wr.heap.size+1=n at *;generalize wr.heap.size=lb at *;have b_rb:=HSb.out.box t4;have b_nb:=HSb.out.box t0;go_wp2_with fail;refine mX HF HSb λw2 HS2=>?_;clear b_rb b_nb HSb;refine mS E i [46] (λhx3 hp3=>?_) λhn3=>?_
  .have HSr:=Hd HS2.out.rot;have b_rb:=HS2.out.box t4;have b_nb:=HS2.out.box t0;go_wp2_with fail;refine mEk (yFa HF HI HSr rfl Ob Z Z) HP 3 λk4 s4 p4 i4 w4 HS4 hi4 kp4=>?_;clear b_rb b_nb HS2 hx3 hp3 HSr;have HR:Hid (prRel E (.raw rb (.cells #[ptrV E.gr] 44 (0,0))::I) j (ptrV n) w4):=Hd (by
    unfold prRel;exact⟨_,_,_,_,_,rfl,HS4.out.pop2.pop2,Z,Z,kp4 rfl HKX.out⟩)
   have HM:Hid (E.N-rdAt E w4<E.N-rdAt E wr):=Hd (by rw[HM0.out,HS4.out.rdAt];omega);have b_rb:=HS4.out.box t3;have b_nb:=HS4.out.box t1;go_wp2_with fail;exact⟨HR.out,HM.out⟩
  refine mS E i [40] (λhx5 hp5=>?_) λhn5=>?_
  .have HSr:=Hd HS2.out.rot;have b_rb:=HS2.out.box t4;have b_nb:=HS2.out.box t0;go_wp2_with fail;refine mEk (vJ (PNn.tightQ _ _ _ _ _) (FnV.clos (k:=179) Tryz.func179 Oa rfl #[ptrV rb,ptrV nb]) HSr.out (λW' h'=>zMw HF HI (Hd h') rfl Ob t2 t0 Z Z)) HP 3 λk6 s6 p6 i6 w6 HS6 hi6 kp6=>?_;clear b_rb b_nb HS2 hn3 hx5 hp5 HSr;have HR:Hid (prRel E (.raw rb (.cells #[ptrV E.gr] 44 (0,0))::I) j (ptrV n) w6):=Hd (by
    unfold prRel;exact⟨_,_,_,_,_,rfl,HS6.out.pop2.pop2,Z,Z,kp6 rfl HKX.out⟩)
   have HM:Hid (E.N-rdAt E w6<E.N-rdAt E wr):=Hd (by rw[HM0.out,HS6.out.rdAt];omega);have b_rb:=HS6.out.box t3;have b_nb:=HS6.out.box t1;go_wp2_with fail;exact⟨HR.out,HM.out⟩
  refine mS E i [91] (λhx7 hp7=>?_) λhn7=>?_
  .have HSr:=Hd HS2.out.rot;have b_rb:=HS2.out.box t4;have b_nb:=HS2.out.box t0;go_wp2_with fail;refine mEk (vJ (PNn.tightQ _ _ _ _ _) (FnV.clos (k:=181) Tryz.func181 Oa rfl #[ptrV rb,ptrV nb]) HSr.out (λW' h'=>zMx HF HI (Hd h') rfl Ob t2 t0 Z Z)) HP 3 λk8 s8 p8 i8 w8 HS8 hi8 kp8=>?_;clear b_rb b_nb HS2 hn3 hn5 hx7 hp7 HSr;have HR:Hid (prRel E (.raw rb (.cells #[ptrV E.gr] 44 (0,0))::I) j (ptrV n) w8):=Hd (by
    unfold prRel;exact⟨_,_,_,_,_,rfl,HS8.out.pop2.pop2,Z,Z,kp8 rfl HKX.out⟩)
   have HM:Hid (E.N-rdAt E w8<E.N-rdAt E wr):=Hd (by rw[HM0.out,HS8.out.rdAt];omega);have b_rb:=HS8.out.box t3;have b_nb:=HS8.out.box t1;go_wp2_with fail;exact⟨HR.out,HM.out⟩
  refine mS E i [123] (λhx9 hp9=>?_) λhn9=>?_
  .have b_rb:=HS2.out.box t4;have b_nb:=HS2.out.box t0;go_wp2_with fail;refine mT (zSo HS2.out.r (HS2.out.ok _ t3)) HS2 λb w10 HS10=>?_;clear b_rb b_nb HS2;cases b with
   |false =>
    have b_rb:=HS10.out.box t4;have b_nb:=HS10.out.box t0;go_wp2_with fail;exact rK HQ HS10.out.tl.tl.tl.pop2 HKX.out
   |true =>
    obtain⟨c0,c1,c4,cz,cn,cn2⟩:=HS10.out.ncell t1;have HS11:=Hd (HS10.out.setK [_] 39);have b_rb:=HS10.out.box t4;have d_rbHS11:=HS11.out.box t4;have b_nb:=HS10.out.box t0;have d_nbHS11:=HS11.out.box t0;go_upto_region 14 with(fail);generalize(World.setCell w10 ⟨n,0,none⟩ (.int .u8 39))=wk at *;clear c0 c1 c4 cz cn cn2 HS10 b_rb d_rbHS11 b_nb d_nbHS11;have b_rb:=HS11.out.box t4;have b_nb:=HS11.out.box t0;have HS12d:=Hd (HS11.out.ext (bR _ _).drew);have hS0:(λX:World=>X.cell? ⟨rb,0,none⟩=some (ptrV E.gr)/\X.cell? ⟨nb,0,none⟩=some (ptrV n)) (World.drew wk):=⟨HS11.out.box t4,HS11.out.box t0⟩;clear b_rb b_nb HS11;refine zV (S:=λX=>X.cell? ⟨rb,0,none⟩=some (ptrV E.gr)/\X.cell? ⟨nb,0,none⟩=some (ptrV n)) [] Oa ?_;generalize World.drew wk=wd at *;refine tU [] 0 50 hS0 ?_;refine tU [] 1 51 hS0 ?_;refine tU [] 2 52 hS0 ?_;refine rU 3 (some 53) λK hK=>?_;go_simp;refine mO HI.out.elements HS12d HP 5 λg13 k13 s13 p13 i13 w13 HS13 hi13=>?_;clear hn3 hn5 hn7 hx9 hp9 HS12d;have hS13:(λX:World=>X.cell? ⟨rb,0,none⟩=some (ptrV E.gr)/\X.cell? ⟨nb,0,none⟩=some (ptrV n)) w13:=⟨HS13.out.box t5,HS13.out.box t1⟩;(try dsimp only)
    refine hK.out _ _ (λ_=>hS13) ?_;clear hK K;(try simp only[qA,qL,qZ,qS])
    have hS14b:(λX:World=>X.cell? ⟨rb,0,none⟩=some (ptrV E.gr)/\X.cell? ⟨nb,0,none⟩=some (ptrV n)) (w13.alloc (.cells #[ptrV g13] 41)):=(λ(hx:Hid (St E (w13.alloc (.cells #[ptrV g13] 41)) i13 _))=>⟨hx.out.box t5,hx.out.box t1⟩) (Hd (HS13.out.ext ((bR _ _).alloc (nR _) _)));refine rU 4 (some 54) λK hK=>?_;go_simp;refine hK.out _ _ (λ_=>hS14b) ?_;clear hK K;(try simp only[qA,qL,qZ,qS])
    refine rU 5 (some 55) λK hK=>?_;go_simp;refine mC HF [_,_] HS13 (gs1 HS13) (λw15 HS15=>?_);have hS15:(λX:World=>X.cell? ⟨rb,0,none⟩=some (ptrV E.gr)/\X.cell? ⟨nb,0,none⟩=some (ptrV n)) w15:=⟨HS15.out.box t4,HS15.out.box t1⟩;(try dsimp only)
    refine hK.out _ _ (λ_=>hS15) ?_;clear hK K;(try simp only[qA,qL,qZ,qS])
    refine yK Oa ?_ _;clear hS0;have b_rb:=HS15.out.box t4;have b_nb:=HS15.out.box t1;have HR:Hid (prRel E (.raw rb (.cells #[ptrV E.gr] 44 (0,0))::I) j (ptrV n) w15):=Hd (by
     unfold prRel;exact⟨_,_,_,_,_,rfl,HS15.out.tl.tl.pop2,Z,by(try simp only[lC,lA,lN]at *);omega,fS⟩)
    have HM:Hid (E.N-rdAt E w15<E.N-rdAt E wr):=Hd (by rw[HM0.out,HS15.out.rdAt];omega);go_wp2_with fail;exact⟨HR.out,HM.out⟩
  have b_rb:=HS2.out.box t4;have b_nb:=HS2.out.box t0;go_wp2_with fail;exact rK HQ HS2.out.tl.tl.tl.pop2 HKX.out
end
section
variable {E:SynE}
theorem PNd.shape{I:List Item}{j:Nat}{a:Int}{e:Ending}{W':World}(h:PNd E I j a e W'):(∃g,e=.returned (ptrV g))\/∃i,e=panE i:=by
 rcases PNk.go h with⟨i,rfl,_⟩|⟨g,k,gs,ps,i,rfl,_⟩
 .exact Or.inr ⟨i,rfl⟩
 .exact Or.inl ⟨g,rfl⟩
theorem PNd.less{A I:List Item}{j:Nat}{a:Int}{e:Ending}{W':World}(h:PNd E (A++I) j a e W'):PNd E I j a e W':=by
 rcases PNd.out h with⟨g,k,gs,ps,i,rfl,hs,h1,h2⟩|⟨i,rfl,hs⟩
 .exact PNd.ret (hs.sub (.cons_cons _ (List.sublist_append_right _ _))) h1 h2
 .exact PNd.pan (hs.sub (List.sublist_append_right _ _))
@[irreducible] def clRel(E:SynE)(I:List Item)(j:Nat)(kv:Value)(W:World):Prop :=
 ∃gs ps,∃i:Nat,(∃a n c,kv=.slice a n c)/\St E W i (.row kv gs ps::I)/\j+1<=i/\(ps.length:Int)<=8*((i:Int)-j)-8/\gs.length+j<=i
theorem zMy{m:Nat}(HF:Hid (SynF E))(HI:Hid (IH E m)){W:World}{j:Nat}{I:List Item}{rb kb ob:Nat}{kd:Nat}(hkd:kd<256/\leastC kd=0){fk:FuncId}{fa:Array Value}(hv:FnV (.func (.func fk) fa #[]) fk fa)(hc:∀W' i J,j<i->St E W' i J->Calls Tryz.prog fk fa W' (PNd E J i (-6)))(HS:Hid (St E W j I))(hb:.raw rb (.cells #[ptrV E.gr] 44 (0,0))∈I)(hkb:.raw kb (.cells #[.int .u8 (kd:Int)] 5 (0,0))∈I)(hob:.raw ob (.cells #[.func (.func fk) fa #[]] 79 (0,0))∈I)(hm:64*(E.N-j)+2<m+1):Calls Tryz.prog 247 #[ptrV rb,ptrV kb,ptrV ob] W (PNd E I j (-15)):=by
 refine pnI HF HS λQ HP HQ hN hj=>?_;have HC:=Hd hc;have he:=hv.2;clear hc;go_enter Tryz.func247,Tryz.ntmps247;have b_rb:=HS.out.box hb;have b_kb:=HS.out.box hkb;have b_ob:=HS.out.box hob;go_wp2_with fail;refine mW HF HS [123] HP 0 λi1 w1 HS1 hi1=>?_;clear b_rb b_kb b_ob HS;have HR:Hid (clRel E I j (.slice none 0 0) w1):=Hd (by
  unfold clRel;exact⟨[],[],_,⟨_,_,_,rfl⟩,HS1.out.nil,Z,by simp;omega,by simp;omega⟩)
 have b_rb:=HS1.out.box hb;have b_kb:=HS1.out.box hkb;have b_ob:=HS1.out.box hob;go_wp2_with fail;go_loopw [4] (λkv wr=>clRel E I j kv wr) (λ_ wr=>E.N-rdAt E wr)
 case atStart=>exact HR.out
 case round =>
  unfold clRel at hrel;obtain⟨gs,ps,i,⟨va,vn,vc,rfl⟩,hst,hji,hps,hgs⟩:=hrel;have HSr:=Hd hst;have hiN:=hst.r.le;have HM0:Hid (E.N-rdAt E wr=E.N-i):=Hd (by rw[HSr.out.rdAt]);clear hst HR HS1 b_rb b_kb b_ob;have b_rb:=HSr.out.box (.tail _ hb);have b_kb:=HSr.out.box (.tail _ hkb);have b_ob:=HSr.out.box (.tail _ hob);go_wp2_with fail;refine mX HF HSr λw2 HS2=>?_;clear b_rb b_kb b_ob HSr;refine mS E i [125] (λhx3 hp3=>?_) λhn3=>?_
  .have b_rb:=HS2.out.box (.tail _ hb);have b_kb:=HS2.out.box (.tail _ hkb);have b_ob:=HS2.out.box (.tail _ hob);go_wp2_with fail;refine mD HF HS2 25 λg4 w4 HS4=>?_;clear b_rb b_kb b_ob HS2;have b_rb:=HS4.out.box (.tail _ hb);have b_kb:=HS4.out.box (.tail _ hkb);have b_ob:=HS4.out.box (.tail _ hob);go_wp2_with fail;refine mW HF HS4 [125] HP 1 λi5 w5 HS5 hi5=>?_;clear b_rb b_kb b_ob hx3 hp3 HS4;have b_rb:=HS5.out.box (.tail _ hb);have b_kb:=HS5.out.box (.tail _ hkb);have b_ob:=HS5.out.box (.tail _ hob);go_wp2_with fail;exact rQ HQ HS5.out
  have b_rb:=HS2.out.box (.tail _ hb);have b_kb:=HS2.out.box (.tail _ hkb);have b_ob:=HS2.out.box (.tail _ hob);go_wp2_with fail;refine mP HS2 kd (λg6 w6 HS6=>?_) hkd.1;clear b_rb b_kb b_ob HS2;have b_rb:=HS6.out.box (.tail _ (.tail _ (.tail _ hb)));have b_kb:=HS6.out.box (.tail _ (.tail _ (.tail _ hkb)));have b_ob:=HS6.out.box (.tail _ (.tail _ (.tail _ hob)));go_wp2_with fail;refine mM HF HS6 [100,101,102,97,117,108,116] (λi7 w7 HS7 hi7=>?_) λw7 HS7=>?_
  .clear b_rb b_kb b_ob hn3 HS6;have b_rb:=HS7.out.box (.tail _ (.tail _ (.tail _ hb)));have b_kb:=HS7.out.box (.tail _ (.tail _ (.tail _ hkb)));have b_ob:=HS7.out.box (.tail _ (.tail _ (.tail _ hob)));go_wp2_with fail;refine mZ HS7 0 λg8 w8 HS8=>?_;clear b_rb b_kb b_ob HS7;have b_rb:=HS8.out.box (.tail _ (.tail _ (.tail _ (.tail _ hb))));have b_kb:=HS8.out.box (.tail _ (.tail _ (.tail _ (.tail _ hkb))));have b_ob:=HS8.out.box (.tail _ (.tail _ (.tail _ (.tail _ hob))));go_wp2_with fail;refine mW HF HS8 [58] HP 4 λi9 w9 HS9 hi9=>?_;clear b_rb b_kb b_ob HS8;have b_rb:=HS9.out.box (.tail _ (.tail _ (.tail _ (.tail _ hb))));have b_kb:=HS9.out.box (.tail _ (.tail _ (.tail _ (.tail _ hkb))));have b_ob:=HS9.out.box (.tail _ (.tail _ (.tail _ (.tail _ hob))));go_upto_region 11 with(fail);have HS10d:=Hd (HS9.out.ext (bR _ _).drew);have hS0:(λX:World=>X.cell? ⟨rb,0,none⟩=some (ptrV E.gr)) (World.drew w9):=HS9.out.box (.tail _ (.tail _ (.tail _ (.tail _ hb))));clear b_rb b_kb b_ob HS9;refine zV (S:=λX=>X.cell? ⟨rb,0,none⟩=some (ptrV E.gr)) [] Oa ?_;generalize World.drew w9=wd at *;refine tF 0 26 (λ_=>hS0) ?_;refine tU [] 1 27 hS0 ?_;refine tF 2 28 (λ_=>hS0) ?_;refine tF 3 29 (λ_=>hS0) ?_;refine tU [] 4 30 hS0 ?_;refine rU 5 (some 31) λK hK=>?_;go_simp;refine mO HI.out.stmts HS10d HP 4 λg11 k11 s11 p11 i11 w11 HS11 hi11=>?_;have hS11:(λX:World=>X.cell? ⟨rb,0,none⟩=some (ptrV E.gr)) w11:=HS11.out.box (.tail _ (.tail _ (.tail _ (.tail _ (.tail _ hb)))));(try dsimp only)
   refine hK.out _ _ (λ_=>hS11) ?_;clear hK K;(try simp only[qA,qL,qZ,qS])
   have hS12b:(λX:World=>X.cell? ⟨rb,0,none⟩=some (ptrV E.gr)) (w11.alloc (.cells #[ptrV g8,ptrV g11] 41)):=(λ(hx:Hid (St E (w11.alloc (.cells #[ptrV g8,ptrV g11] 41)) i11 _))=>hx.out.box (.tail _ (.tail _ (.tail _ (.tail _ (.tail _ hb)))))) (Hd (HS11.out.ext ((bR _ _).alloc (nR _) _)));refine rU 6 (some 32) λK hK=>?_;go_simp;refine hK.out _ _ (λ_=>hS12b) ?_;clear hK K;(try simp only[qA,qL,qZ,qS])
   refine rU 7 (some 33) λK hK=>?_;go_simp;refine mC HF [_,_] HS11 (gs2 HS11) (λw13 HS13x=>?_) (hk:=⟨hkd.1,by rw[hkd.2];omega⟩);have HS13:=Hd HS13x.out.tl.tl;clear HS13x;have hS13:(λX:World=>X.cell? ⟨rb,0,none⟩=some (ptrV E.gr)) w13:=HS13.out.box (.tail _ (.tail _ hb));(try dsimp only)
   refine hK.out _ _ (λ_=>hS13) ?_;clear hK K;(try simp only[qA,qL,qZ,qS])
   have hS14b:(λX:World=>X.cell? ⟨rb,0,none⟩=some (ptrV E.gr)) (w13.alloc (.cells #[ptrV g6] 41)):=(λ(hx:Hid (St E (w13.alloc (.cells #[ptrV g6] 41)) i11 _))=>hx.out.box (.tail _ (.tail _ hb))) (Hd (HS13.out.ext ((bR _ _).alloc (nR _) _)));refine rU 8 (some 34) λK hK=>?_;go_simp;refine hK.out _ _ (λ_=>hS14b) ?_;clear hK K;(try simp only[qA,qL,qZ,qS])
   obtain⟨v',w15a,hr,hs4,a4,n4,c4,rfl⟩:=St.append1 [_] HS13.out t0 (by(try simp);try omega);have HRUN:=Hd hr;have HS15a:=Hd hs4;clear hr hs4;have hS15a:(λX:World=>X.cell? ⟨rb,0,none⟩=some (ptrV E.gr)) w15a:=HS15a.out.box (.tail _ (.tail _ hb));refine rU 9 (some 35) λK hK=>?_;refine xT _ _ _ _ HRUN.out rfl rfl rfl rfl ?_;refine hK.out _ _ (λ_=>hS15a) ?_;clear hK K;(try simp only[qA,qL,qZ,qS])
   refine tF 10 4 (λ_=>hS15a) ?_;refine yK Oa ?_ _;clear hS0;have HR:Hid (clRel E I j (.slice a4 n4 c4) w15a):=Hd (by
    unfold clRel;exact⟨_,_,_,⟨_,_,_,rfl⟩,HS15a.out.tl,Z,by(try simp only[lA,lC,lN]at *);omega,by(try simp only[lA,lC,lN]at *);omega⟩)
   have HM:Hid (E.N-rdAt E w15a<E.N-rdAt E wr):=Hd (by rw[HM0.out,HS15a.out.rdAt];omega);have b_rb:=HS15a.out.box (.tail _ (.tail _ hb));have b_kb:=HS15a.out.box (.tail _ (.tail _ hkb));have b_ob:=HS15a.out.box (.tail _ (.tail _ hob));go_wp2_with fail;exact⟨HR.out,HM.out⟩
  clear b_rb b_kb b_ob HS6;have b_rb:=HS7.out.box (.tail _ (.tail _ (.tail _ hb)));have b_kb:=HS7.out.box (.tail _ (.tail _ (.tail _ hkb)));have b_ob:=HS7.out.box (.tail _ (.tail _ (.tail _ hob)));go_wp2_with fail;refine mW HF HS7 [99,97,115,101] HP 3 λi16 w16 HS16 hi16=>?_;clear b_rb b_kb b_ob hn3 HS7;have b_rb:=HS16.out.box (.tail _ (.tail _ (.tail _ hb)));have b_kb:=HS16.out.box (.tail _ (.tail _ (.tail _ hkb)));have b_ob:=HS16.out.box (.tail _ (.tail _ (.tail _ hob)));go_wp2_with fail;refine mN (HC.out _ _ _ Z HS16.out) HP 3 λg17 k17 s17 p17 i17 w17 HS17 hi17=>?_;clear b_rb b_kb b_ob HS16;have b_rb:=HS17.out.box (.tail _ (.tail _ (.tail _ (.tail _ hb))));have b_kb:=HS17.out.box (.tail _ (.tail _ (.tail _ (.tail _ hkb))));have b_ob:=HS17.out.box (.tail _ (.tail _ (.tail _ (.tail _ hob))));go_wp2_with fail;refine mW HF HS17 [58] HP 4 λi18 w18 HS18 hi18=>?_;clear b_rb b_kb b_ob HS17;have b_rb:=HS18.out.box (.tail _ (.tail _ (.tail _ (.tail _ hb))));have b_kb:=HS18.out.box (.tail _ (.tail _ (.tail _ (.tail _ hkb))));have b_ob:=HS18.out.box (.tail _ (.tail _ (.tail _ (.tail _ hob))));go_upto_region 11 with(fail);have HS19d:=Hd (HS18.out.ext (bR _ _).drew);have hS0:(λX:World=>X.cell? ⟨rb,0,none⟩=some (ptrV E.gr)) (World.drew w18):=HS18.out.box (.tail _ (.tail _ (.tail _ (.tail _ hb))));clear b_rb b_kb b_ob HS18;refine zV (S:=λX=>X.cell? ⟨rb,0,none⟩=some (ptrV E.gr)) [] Oa ?_;generalize World.drew w18=wd at *;refine tF 0 26 (λ_=>hS0) ?_;refine tU [] 1 27 hS0 ?_;refine tF 2 28 (λ_=>hS0) ?_;refine tF 3 29 (λ_=>hS0) ?_;refine tU [] 4 30 hS0 ?_;refine rU 5 (some 31) λK hK=>?_;go_simp;refine mO HI.out.stmts HS19d HP 4 λg20 k20 s20 p20 i20 w20 HS20 hi20=>?_;have hS20:(λX:World=>X.cell? ⟨rb,0,none⟩=some (ptrV E.gr)) w20:=HS20.out.box (.tail _ (.tail _ (.tail _ (.tail _ (.tail _ hb)))));(try dsimp only)
  refine hK.out _ _ (λ_=>hS20) ?_;clear hK K;(try simp only[qA,qL,qZ,qS])
  have hS21b:(λX:World=>X.cell? ⟨rb,0,none⟩=some (ptrV E.gr)) (w20.alloc (.cells #[ptrV g17,ptrV g20] 41)):=(λ(hx:Hid (St E (w20.alloc (.cells #[ptrV g17,ptrV g20] 41)) i20 _))=>hx.out.box (.tail _ (.tail _ (.tail _ (.tail _ (.tail _ hb)))))) (Hd (HS20.out.ext ((bR _ _).alloc (nR _) _)));refine rU 6 (some 32) λK hK=>?_;go_simp;refine hK.out _ _ (λ_=>hS21b) ?_;clear hK K;(try simp only[qA,qL,qZ,qS])
  refine rU 7 (some 33) λK hK=>?_;go_simp;refine mC HF [_,_] HS20 (gs2 HS20) (λw22 HS22x=>?_) (hk:=⟨hkd.1,by rw[hkd.2];omega⟩);have HS22:=Hd HS22x.out.tl.tl;clear HS22x;have hS22:(λX:World=>X.cell? ⟨rb,0,none⟩=some (ptrV E.gr)) w22:=HS22.out.box (.tail _ (.tail _ hb));(try dsimp only)
  refine hK.out _ _ (λ_=>hS22) ?_;clear hK K;(try simp only[qA,qL,qZ,qS])
  have hS23b:(λX:World=>X.cell? ⟨rb,0,none⟩=some (ptrV E.gr)) (w22.alloc (.cells #[ptrV g6] 41)):=(λ(hx:Hid (St E (w22.alloc (.cells #[ptrV g6] 41)) i20 _))=>hx.out.box (.tail _ (.tail _ hb))) (Hd (HS22.out.ext ((bR _ _).alloc (nR _) _)));refine rU 8 (some 34) λK hK=>?_;go_simp;refine hK.out _ _ (λ_=>hS23b) ?_;clear hK K;(try simp only[qA,qL,qZ,qS])
  obtain⟨v',w24a,hr,hs4,a4,n4,c4,rfl⟩:=St.append1 [_] HS22.out t0 (by(try simp);try omega);have HRUN:=Hd hr;have HS24a:=Hd hs4;clear hr hs4;have hS24a:(λX:World=>X.cell? ⟨rb,0,none⟩=some (ptrV E.gr)) w24a:=HS24a.out.box (.tail _ (.tail _ hb));refine rU 9 (some 35) λK hK=>?_;refine xT _ _ _ _ HRUN.out rfl rfl rfl rfl ?_;refine hK.out _ _ (λ_=>hS24a) ?_;clear hK K;(try simp only[qA,qL,qZ,qS])
  refine tF 10 4 (λ_=>hS24a) ?_;refine yK Oa ?_ _;clear hS0;have HR:Hid (clRel E I j (.slice a4 n4 c4) w24a):=Hd (by
   unfold clRel;exact⟨_,_,_,⟨_,_,_,rfl⟩,HS24a.out.tl,Z,by(try simp only[lA,lC,lN]at *);omega,by(try simp only[lA,lC,lN]at *);omega⟩)
  have HM:Hid (E.N-rdAt E w24a<E.N-rdAt E wr):=Hd (by rw[HM0.out,HS24a.out.rdAt];omega);have b_rb:=HS24a.out.box (.tail _ (.tail _ hb));have b_kb:=HS24a.out.box (.tail _ (.tail _ hkb));have b_ob:=HS24a.out.box (.tail _ (.tail _ hob));go_wp2_with fail;exact⟨HR.out,HM.out⟩
theorem xF{m:Nat}(HF:Hid (SynF E))(HI:Hid (IH E m)){W:World}{j:Nat}{I:List Item}(HS:Hid (St E W j I))(kd:Nat)(hkd:kd<256/\leastC kd=0){fk:FuncId}{fa:Array Value}(hv:FnV (.func (.func fk) fa #[]) fk fa)(hc:∀W' i J,j<i->St E W' i J->Calls Tryz.prog fk fa W' (PNd E J i (-6)))(hm:64*(E.N-j)+2<m+1):Calls Tryz.prog 225 #[ptrV E.gr,.int .u8 (kd:Int),.func (.func fk) fa #[]] W (PNd E I j (-15)):=by
 have HX:=Hd (λe w h=>PNd.shape (E:=E) (I:=I) (j:=j) (a:=-15) (e:=e) (W':=w) h);have HS0:=Hd (((HS.out.new (.cells #[ptrV E.gr] 44)).new (.cells #[.int .u8 (kd:Int)] 5)).new (.cells #[.func (.func fk) fa #[]] 79));rw[show((W.alloc (.cells #[ptrV E.gr] 44)).alloc (.cells #[.int .u8 (kd:Int)] 5)).heap.size=W.heap.size+1+1 by simp,show(W.alloc (.cells #[ptrV E.gr] 44)).heap.size=W.heap.size+1 by simp]at HS0;have HC:=Hd (λW' (h':St E W' j _)=>(zMy HF HI hkd hv hc (Hd h') t2 t1 t0 hm).mono λe w h=>PNd.less (I:=I) (A:=[.raw (W.heap.size+1+1) (.cells #[.func (.func fk) fa #[]] 79 (0,0)),.raw (W.heap.size+1) (.cells #[.int .u8 (kd:Int)] 5 (0,0)),.raw W.heap.size (.cells #[ptrV E.gr] 44 (0,0))]) h);have hq:TightQ E (PNd E I j (-15)):=PNd.tightQ I j (-15);generalize PNd E I j (-15)=Q at *;have he:=hv.2;clear HS HF HI hc hv;have hmf:=mkf;go_enter Tryz.func225,Tryz.ntmps225;go_upto_region 1 with(fail);have b0:=HS0.out.box t2;go_wp2_with fail;refine(vJ hq (FnV.clos (k:=247) Tryz.func247 Oa rfl #[ptrV W.heap.size,ptrV (W.heap.size+1),ptrV (W.heap.size+1+1)]) HS0.out (λW' h'=>HC.out _ h')).mono ?_;intro e w1 h1;rcases HX.out _ _ h1 with⟨g,rfl⟩|⟨i,rfl⟩
 .go_wp2_with fail;exact h1
 .exact⟨rfl,h1⟩
theorem zSt{m:Nat}(HF:Hid (SynF E))(HI:Hid (IH E m)):OkN E 191 2 (-6) (m+1):=by
 refine okJ HF λW j I Q HP HQ HS hN hj hjN hm=>?_;have hmf:=mkf;go_enter Tryz.func191,Tryz.ntmps191;go_wp2_with fail;refine mP HS 63 λg1 w1 HS1=>?_;obtain⟨hw,c3,z3,i2,HS2,hi2⟩:=mI HS1 HS1 hN;go_wp2_with fail;refine mN (xF HF HI HS2 64 V gF (λW' i J h1 h2=>HI.out.simple _ _ _ h2 (by have:=h2.r.le;omega)) Z) HP 2 λg3 k3 s3 p3 i3 w3 HS3 hi3=>?_;clear c3 z3 hw HS1 HS2;go_wp2_with fail;refine mC HF [_] HS3 (gs1 HS3) (λw4 HS4=>?_);go_wp2_with fail;exact rQ HQ HS4.out.tl
theorem PA.go{I:List Item}{j m:Nat}{W':World}{e:Ending}(h:PA E I j m e W'):(e=.returned (.tuple #[.pointer none,.pointer none])/\Hid (St E W' j I))\/(∃a ka ga pa b kb gb pb,e=.returned (.tuple #[ptrV a,ptrV b])/\Hid (St E W' j (.done a ka ga pa::.done b kb gb pb::I))/\pa.length+pb.length<=m):=by
 unfold PA at h;rcases h with⟨h1,h2⟩|⟨a,ka,ga,pa,b,kb,gb,pb,h1,h2,h3⟩
 .exact Or.inl ⟨h1,Hd h2⟩
 .exact Or.inr ⟨a,ka,ga,pa,b,kb,gb,pb,h1,Hd h2,h3⟩
theorem zPx{m:Nat}(HF:Hid (SynF E))(HI:Hid (IH E m)):OkN E 190 2 (-6) (m+1):=by
 refine okJ HF λW j I Q HP HQ HS hN hj hjN hm=>?_;have hmf:=mkf;go_enter Tryz.func190,Tryz.ntmps190;go_wp2_with fail;refine mP HS 60 λg1 w1 HS1=>?_;obtain⟨hw,c3,z3,i2,HS2,hi2⟩:=mI HS1 HS1 hN;go_wp2_with fail;refine mZ HS2 0 λg3 w3 HS3=>?_;clear c3 z3 hw HS1 HS2;go_wp2_with fail;refine mZ HS3 0 λg4 w4 HS4=>?_;go_wp2_with fail;refine mX HF HS4 λw5 HS5=>?_;by_cases hx6:(wordZ E i2).toList=[123]\/(wordZ E i2).toList=[59]
 .rcases hx6 with hx6|hx6;all_goals
   have hp6:=gP hx6 V;go_wp2_with fail;refine mM HF HS5 [59] (λi7 w7 HS7 hi7=>?_) λw7 HS7=>?_
   .clear hx6 hp6 HS5;go_wp2_with fail;refine mZ HS7 0 λg8 w8 HS8=>?_;go_wp2_with fail;refine mX HF HS8 λw9 HS9=>?_;refine mS E i7 [123] (λhx10 hp10=>?_) λhn10=>?_
    .go_wp2_with fail;refine mN (xF HF HI HS9 62 V gQ (λW' i J h1 h2=>(HI.out.exprs _ _ _ h2 (by have:=h2.r.le;omega)).mono λ_ _ h=>h.drop) Z) HP 5 λg11 k11 s11 p11 i11 w11 HS11 hi11=>?_;clear hx10 hp10 HS9;go_wp2_with fail;refine mC HF [_,_,_,_] HS11 (.cons (HS11.out.ok _ t3) (.cons (HS11.out.ok _ t1) (.cons (HS11.out.ok _ t0) (.nil _ _ _)))) (λw12 HS12=>?_);go_wp2_with fail;exact rQ HQ HS12.out.tl.tl.tl.tl
    go_wp2_with fail;refine mH HI.out.simple gF HS9 HP 5 λg13 k13 s13 p13 i13 w13 HS13 hi13=>?_;clear hn10 HS9;go_wp2_with fail;refine(zEx HF.out HS13.out t0).mono ?_;intro e w14 h14;rcases h14.go with⟨rfl,HS14⟩|⟨a14,ka,ga,pa,b14,kb,gb,pb,rfl,HS14,hab⟩
    .clear h14 HS13;go_wp2_with fail;refine mN (zBl HS14.out t0) HP 6 λg15 k15 s15 p15 i15 w15 HS15 hi15=>?_;go_wp2_with fail;refine mN (xF HF HI HS15 62 V gQ (λW' i J h1 h2=>(HI.out.exprs _ _ _ h2 (by have:=h2.r.le;omega)).mono λ_ _ h=>h.drop) Z) HP 7 λg16 k16 s16 p16 i16 w16 HS16 hi16=>?_;go_wp2_with fail;refine mC HF [_,_,_,_,_,_] HS16 (.cons (HS16.out.ok _ t5) (.cons (HS16.out.ok _ t1) (.cons (HS16.out.ok _ t0) (.nil _ _ _)))) (λw17 HS17=>?_);go_wp2_with fail;exact rQ HQ HS17.out.tl.tl.tl.tl.tl.tl
    .clear h14 HS13;obtain⟨c0,c1,c4,cz,cn,cn2⟩:=HS14.out.ncell t6;have HS18:=Hd (HS14.out.setK [_,_,_,_,_,_] 61);go_wp2_with fail;refine mN (xF HF HI HS18 62 V zIf (λW' i J h1 h2=>(HI.out.types _ _ _ h2 (by have:=h2.r.le;omega)).mono λ_ _ h=>h.drop) Z) HP 8 λg19 k19 s19 p19 i19 w19 HS19 hi19=>?_;clear c0 c1 c4 cz cn cn2 HS14 HS18;go_wp2_with fail;refine mC HF [_,_,_,_,_,_,_] HS19 (.cons (HS19.out.ok _ t6) (.cons (HS19.out.ok _ t1) (.cons (HS19.out.ok _ t2) (.cons (HS19.out.ok _ t0) (.nil _ _ _))))) (λw20 HS20=>?_);go_wp2_with fail;exact rQ HQ HS20.out.tl.tl.tl.tl.tl.tl.tl
   go_wp2_with fail;refine mN (xF HF HI HS7 62 V gQ (λW' i J h1 h2=>(HI.out.exprs _ _ _ h2 (by have:=h2.r.le;omega)).mono λ_ _ h=>h.drop) Z) HP 4 λg21 k21 s21 p21 i21 w21 HS21 hi21=>?_;clear hx6 hp6 HS7;go_wp2_with fail;refine mC HF [_,_,_] HS21 (gs3 HS21) (λw22 HS22=>?_);go_wp2_with fail;exact rQ HQ HS22.out.tl.tl.tl
 simp only[not_or]at hx6;obtain⟨hn23,hn24⟩:=hx6;replace hn23:=nq hn23;replace hn24:=nq hn24;go_wp2_with fail;refine mH HI.out.simple gF HS5 HP 4 λg25 k25 s25 p25 i25 w25 HS25 hi25=>?_;clear hn23 hn24 HS5;go_wp2_with fail;refine mM HF HS25 [59] (λi26 w26 HS26 hi26=>?_) λw26 HS26=>?_
 .go_wp2_with fail;refine mZ HS26 0 λg27 w27 HS27=>?_;go_wp2_with fail;refine mX HF HS27 λw28 HS28=>?_;refine mS E i26 [123] (λhx29 hp29=>?_) λhn29=>?_
  .go_wp2_with fail;refine mN (xF HF HI HS28 62 V gQ (λW' i J h1 h2=>(HI.out.exprs _ _ _ h2 (by have:=h2.r.le;omega)).mono λ_ _ h=>h.drop) Z) HP 6 λg30 k30 s30 p30 i30 w30 HS30 hi30=>?_;clear hx29 hp29 HS28;go_wp2_with fail;refine mC HF [_,_,_,_,_] HS30 (gs3 HS30) (λw31 HS31=>?_);go_wp2_with fail;exact rQ HQ HS31.out.tl.tl.tl.tl.tl
  go_wp2_with fail;refine mH HI.out.simple gF HS28 HP 6 λg32 k32 s32 p32 i32 w32 HS32 hi32=>?_;clear hn29 HS28;go_wp2_with fail;refine(zEx HF.out HS32.out t0).mono ?_;intro e w33 h33;rcases h33.go with⟨rfl,HS33⟩|⟨a33,ka,ga,pa,b33,kb,gb,pb,rfl,HS33,hab⟩
  .clear h33 HS32;go_wp2_with fail;refine mN (zBl HS33.out t0) HP 7 λg34 k34 s34 p34 i34 w34 HS34 hi34=>?_;go_wp2_with fail;refine mN (xF HF HI HS34 62 V gQ (λW' i J h1 h2=>(HI.out.exprs _ _ _ h2 (by have:=h2.r.le;omega)).mono λ_ _ h=>h.drop) Z) HP 8 λg35 k35 s35 p35 i35 w35 HS35 hi35=>?_;go_wp2_with fail;refine mC HF [_,_,_,_,_,_,_] HS35 (.cons (HS35.out.ok _ t4) (.cons (HS35.out.ok _ t1) (.cons (HS35.out.ok _ t0) (.nil _ _ _)))) (λw36 HS36=>?_);go_wp2_with fail;exact rQ HQ HS36.out.tl.tl.tl.tl.tl.tl.tl
  .clear h33 HS32;obtain⟨c0,c1,c4,cz,cn,cn2⟩:=HS33.out.ncell t7;have HS37:=Hd (HS33.out.setK [_,_,_,_,_,_,_] 61);go_wp2_with fail;refine mN (xF HF HI HS37 62 V zIf (λW' i J h1 h2=>(HI.out.types _ _ _ h2 (by have:=h2.r.le;omega)).mono λ_ _ h=>h.drop) Z) HP 9 λg38 k38 s38 p38 i38 w38 HS38 hi38=>?_;clear c0 c1 c4 cz cn cn2 HS33 HS37;go_wp2_with fail;refine mC HF [_,_,_,_,_,_,_,_] HS38 (.cons (HS38.out.ok _ t5) (.cons (HS38.out.ok _ t1) (.cons (HS38.out.ok _ t2) (.cons (HS38.out.ok _ t0) (.nil _ _ _))))) (λw39 HS39=>?_);go_wp2_with fail;exact rQ HQ HS39.out.tl.tl.tl.tl.tl.tl.tl.tl
 go_wp2_with fail;refine(zEx HF.out HS26.out t0).mono ?_;intro e w40 h40;rcases h40.go with⟨rfl,HS40⟩|⟨a40,ka,ga,pa,b40,kb,gb,pb,rfl,HS40,hab⟩
 .clear h40 HS26;go_wp2_with fail;refine mN (zBl HS40.out t0) HP 5 λg41 k41 s41 p41 i41 w41 HS41 hi41=>?_;go_wp2_with fail;refine mN (xF HF HI HS41 62 V gQ (λW' i J h1 h2=>(HI.out.exprs _ _ _ h2 (by have:=h2.r.le;omega)).mono λ_ _ h=>h.drop) Z) HP 6 λg42 k42 s42 p42 i42 w42 HS42 hi42=>?_;go_wp2_with fail;refine mC HF [_,_,_,_,_] HS42 (.cons (HS42.out.ok _ t4) (.cons (HS42.out.ok _ t1) (.cons (HS42.out.ok _ t0) (.nil _ _ _)))) (λw43 HS43=>?_);go_wp2_with fail;exact rQ HQ HS43.out.tl.tl.tl.tl.tl
 .clear h40 HS26;obtain⟨c0,c1,c4,cz,cn,cn2⟩:=HS40.out.ncell t5;have HS44:=Hd (HS40.out.setK [_,_,_,_,_] 61);go_wp2_with fail;refine mN (xF HF HI HS44 62 V zIf (λW' i J h1 h2=>(HI.out.types _ _ _ h2 (by have:=h2.r.le;omega)).mono λ_ _ h=>h.drop) Z) HP 7 λg45 k45 s45 p45 i45 w45 HS45 hi45=>?_;clear c0 c1 c4 cz cn cn2 HS40 HS44;go_wp2_with fail;refine mC HF [_,_,_,_,_,_] HS45 (.cons (HS45.out.ok _ t5) (.cons (HS45.out.ok _ t1) (.cons (HS45.out.ok _ t2) (.cons (HS45.out.ok _ t0) (.nil _ _ _))))) (λw46 HS46=>?_);go_wp2_with fail;exact rQ HQ HS46.out.tl.tl.tl.tl.tl.tl
end
end Go.Proofs.YtfpjdpdmgceciaaGreatDoor
