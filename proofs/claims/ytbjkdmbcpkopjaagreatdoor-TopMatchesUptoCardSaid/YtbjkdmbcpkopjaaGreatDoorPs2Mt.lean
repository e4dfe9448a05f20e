/- Layer 12: operands, elements, values, rows with commas (printed by tools/gensyn2.py). -/
import Derived.Test.YtbjkdmbcpkopjaaGreatDoorPsVMt
import Derived.Test.YtbjkdmbcpkopjaaGreatDoorUntilMt
import Derived.Test.YtbjkdmbcpkopjaaGreatDoorPs1Mt
namespace Go.Proofs.YtbjkdmbcpkopjaaGreatDoor
set_option maxRecDepth 100000
set_option maxHeartbeats 32000000
set_option linter.all false
attribute [local irreducible] Calls
attribute [local irreducible] wpStill
open Go.RowKit

section
variable {E:SynE}
@[irreducible] def xsRel (E:SynE) (I:List Item) (j:Nat) (kv:Value) (W:World):Prop :=
 ∃ gs ps,∃ i:Nat,(∃ a n c,kv=.slice a n c)∧St E W i (.row kv gs ps::I)∧j+1≤i∧(ps.length:Int)≤8*((i:Int)-j)-7∧gs.length+j≤i
theorem zXz {m:Nat} (HF:Hid (SynF E)) (HI:Hid (IH E m)):Ok E 163 12 (-6) (m+1):=by
 refine okI HF fun W j I Q HP HQ HS hN hj hm=>?_;go_enter Tryz.func163,Tryz.ntmps163;go_wp2_with fail;refine mO HI.out.expr HS HP 0 fun g1 k1 s1 p1 i1 w1 HS1 hi1=>?_;have HR:Hid (xsRel E I j (.slice (some ⟨w1.heap.size,0,none⟩) 1 1) (w1.alloc (.cells #[ptrV g1] 61))):=Hd (by
  unfold xsRel;exact ⟨[g1],_,i1,⟨_,_,_,rfl⟩,(HS1.out.lit [g1] _ (by have:=GoodS.cons (HS1.out.ok _ (.head _)) (GoodS.nil _ _ _);simpa using this) (by simp)).pop2,by omega,by (try simp only [lC,lN]);omega,by simp;omega⟩)
 go_wp2_with fail;go_loopw [3] (fun kv wr=>xsRel E I j kv wr) (fun _ wr=>E.N-rdAt E wr)
 case atStart=>exact HR.out
 case round =>
  unfold xsRel at hrel;obtain ⟨gs,ps,i,⟨va,vn,vc,rfl⟩,hst,hji,hps,hgs⟩:=hrel;have HS:=Hd hst;have hiN:=hst.r.le;have HM0:Hid (E.N-rdAt E wr=E.N-i):=Hd (by rw [HS.out.rdAt]);clear hst HR HS1;go_wp2_with fail;refine mM HF HS [44] (fun i2 w2 HS2 hi2=>?_) fun w2 HS2=>?_
  ·go_wp2_with fail;refine mO HI.out.expr HS2 HP 1 fun g3 k3 s3 p3 i3 w3 HS3 hi3=>?_;obtain ⟨v',w3a,hr,hs4,a4,n4,c4,rfl⟩:=St.append1 [_] HS3.out (.head _) (by omega);have HRUN:=Hd hr;have HR:Hid (xsRel E I j (.slice a4 n4 c4) w3a):=Hd (by
    unfold xsRel;exact ⟨_,_,_,⟨_,_,_,rfl⟩,hs4.tl,by omega,by (try simp only [lA,lC,lN]);omega,by simp;omega⟩)
   have HM:Hid (E.N-rdAt E w3a<E.N-rdAt E wr):=Hd (by rw [HM0.out,hs4.rdAt];omega);clear hr hs4;go_wp2_with (at_builtin;refine zE rfl _ _ _ _ HRUN.out rfl rfl rfl rfl ?_);exact ⟨HR.out,HM.out⟩
  go_wp2_with fail;refine mD HF HS2 11 fun g4 w4 HS4=>?_;go_wp2_with fail;exact rQ HQ HS4.out
theorem zYa {m:Nat} (HF:Hid (SynF E)) (HI:Hid (IH E m)):Ok E 196 8 (-6) (m+1):=by
 refine okI HF fun W j I Q HP HQ HS hN hj hm=>?_;go_enter Tryz.func196,Tryz.ntmps196;go_wp2_with fail;refine mO HI.out.typ HS HP 0 fun g1 k1 s1 p1 i1 w1 HS1 hi1=>?_;have HR:Hid (xsRel E I j (.slice (some ⟨w1.heap.size,0,none⟩) 1 1) (w1.alloc (.cells #[ptrV g1] 61))):=Hd (by
  unfold xsRel;exact ⟨[g1],_,i1,⟨_,_,_,rfl⟩,(HS1.out.lit [g1] _ (by have:=GoodS.cons (HS1.out.ok _ (.head _)) (GoodS.nil _ _ _);simpa using this) (by simp)).pop2,by omega,by (try simp only [lC,lN]);omega,by simp;omega⟩)
 go_wp2_with fail;go_loopw [3] (fun kv wr=>xsRel E I j kv wr) (fun _ wr=>E.N-rdAt E wr)
 case atStart=>exact HR.out
 case round =>
  unfold xsRel at hrel;obtain ⟨gs,ps,i,⟨va,vn,vc,rfl⟩,hst,hji,hps,hgs⟩:=hrel;have HS:=Hd hst;have hiN:=hst.r.le;have HM0:Hid (E.N-rdAt E wr=E.N-i):=Hd (by rw [HS.out.rdAt]);clear hst HR HS1;go_wp2_with fail;refine mM HF HS [44] (fun i2 w2 HS2 hi2=>?_) fun w2 HS2=>?_
  ·go_wp2_with fail;refine mO HI.out.typ HS2 HP 1 fun g3 k3 s3 p3 i3 w3 HS3 hi3=>?_;obtain ⟨v',w3a,hr,hs4,a4,n4,c4,rfl⟩:=St.append1 [_] HS3.out (.head _) (by omega);have HRUN:=Hd hr;have HR:Hid (xsRel E I j (.slice a4 n4 c4) w3a):=Hd (by
    unfold xsRel;exact ⟨_,_,_,⟨_,_,_,rfl⟩,hs4.tl,by omega,by (try simp only [lA,lC,lN]);omega,by simp;omega⟩)
   have HM:Hid (E.N-rdAt E w3a<E.N-rdAt E wr):=Hd (by rw [HM0.out,hs4.rdAt];omega);clear hr hs4;go_wp2_with (at_builtin;refine zE rfl _ _ _ _ HRUN.out rfl rfl rfl rfl ?_);exact ⟨HR.out,HM.out⟩
  go_wp2_with fail;refine mD HF HS2 11 fun g4 w4 HS4=>?_;go_wp2_with fail;exact rQ HQ HS4.out
theorem zYb {m:Nat} (HF:Hid (SynF E)) (HI:Hid (IH E m)):Ok E 124 3 (-6) (m+1):=by
 refine okI HF fun W j I Q HP HQ HS hN hj hm=>?_;go_enter Tryz.func124,Tryz.ntmps124;go_wp2_with fail;refine mA HF HS HP 0 fun g1 i1 w1 HS1 hi1=>?_;have HR:Hid (xsRel E I j (.slice (some ⟨w1.heap.size,0,none⟩) 1 1) (w1.alloc (.cells #[ptrV g1] 61))):=Hd (by
  unfold xsRel;exact ⟨[g1],_,i1,⟨_,_,_,rfl⟩,(HS1.out.lit [g1] _ (by have:=GoodS.cons (HS1.out.ok _ (.head _)) (GoodS.nil _ _ _);simpa using this) (by simp)).pop2,by omega,by (try simp only [lC,lN]);omega,by simp;omega⟩)
 go_wp2_with fail;go_loopw [3] (fun kv wr=>xsRel E I j kv wr) (fun _ wr=>E.N-rdAt E wr)
 case atStart=>exact HR.out
 case round =>
  unfold xsRel at hrel;obtain ⟨gs,ps,i,⟨va,vn,vc,rfl⟩,hst,hji,hps,hgs⟩:=hrel;have HS:=Hd hst;have hiN:=hst.r.le;have HM0:Hid (E.N-rdAt E wr=E.N-i):=Hd (by rw [HS.out.rdAt]);clear hst HR HS1;go_wp2_with fail;refine mM HF HS [44] (fun i2 w2 HS2 hi2=>?_) fun w2 HS2=>?_
  ·go_wp2_with fail;refine mA HF HS2 HP 1 fun g3 i3 w3 HS3 hi3=>?_;obtain ⟨v',w3a,hr,hs4,a4,n4,c4,rfl⟩:=St.append1 [_] HS3.out (.head _) (by omega);have HRUN:=Hd hr;have HR:Hid (xsRel E I j (.slice a4 n4 c4) w3a):=Hd (by
    unfold xsRel;exact ⟨_,_,_,⟨_,_,_,rfl⟩,hs4.tl,by omega,by (try simp only [lA,lC,lN]);omega,by simp;omega⟩)
   have HM:Hid (E.N-rdAt E w3a<E.N-rdAt E wr):=Hd (by rw [HM0.out,hs4.rdAt];omega);clear hr hs4;go_wp2_with (at_builtin;refine zE rfl _ _ _ _ HRUN.out rfl rfl rfl rfl ?_);exact ⟨HR.out,HM.out⟩
  go_wp2_with fail;refine mD HF HS2 10 fun g4 w4 HS4=>?_;go_wp2_with fail;exact rQ HQ HS4.out
theorem zQy {m:Nat} (HF:Hid (SynF E)) (HI:Hid (IH E m)):Ok E 146 7 (-7) (m+1):=by
 refine okI HF fun W j I Q HP HQ HS hN hj hm=>?_;have hmf:=mkf;go_enter Tryz.func146,Tryz.ntmps146;go_wp2_with fail;refine mP HS 28 fun g1 w1 HS1=>?_;have c3:=HS1.out.r.c3;have z3:=HS1.out.r.z 3;go_wp2_with fail;refine mQ (zEk HF.out HS1.out.r (j:Int) (by omega)) HS1 fun w2 HS2=>?_;clear c3 z3 HS1;cases hx3:litK E (j:Int) with
 | true =>
  have hl:=yCx hx3;go_wp2_with fail;refine mL (zGw HF.out HS2.out 27 (by decide) true (fun _=>hl)) HP 2 fun g4 i4 w4 HS4 hi4=>?_;clear hx3 hl HS2;go_wp2_with fail;exact rQ HQ HS4.out.pop2.pop2
 | false =>
  go_wp2_with fail;refine mX HF HS2 fun w5 HS5=>?_;refine mS E j [40] (fun hx6 hp6=>?_) fun hn6=>?_
  ·obtain ⟨hw,c3,z3,i7,HS7,hi7⟩:=mI HS5 HS5 hN;go_wp2_with fail;refine mY HI.out.expr zBa HS7 HP 2 fun g8 k8 s8 p8 i8 w8 HS8 hi8=>?_;clear c3 z3 hw HS5 hx3 hx6 hp6 HS7;go_wp2_with fail;refine mW HF HS8 [41] HP 3 fun i9 w9 HS9 hi9=>?_;go_wp2_with fail;refine mC HF [_] HS9 (gs1 HS9) (fun w10 HS10=>?_);go_wp2_with fail;exact rQ HQ HS10.out.tl
  refine mS E j [102,117,110,99] (fun hx11 hp11=>?_) fun hn11=>?_
  ·obtain ⟨hw,c3,z3,i12,HS12,hi12⟩:=mI HS5 HS5 hN;obtain ⟨c0,c1,c4,cz,cn,cn2⟩:=HS5.out.ncell t0;have HS13:=Hd (HS12.out.setK [] 46);go_wp2_with fail;refine mY HI.out.signature zLh HS13 HP 2 fun g14 k14 s14 p14 i14 w14 HS14 hi14=>?_;clear c3 z3 hw HS5 hx3 hn6 hx11 hp11 c0 c1 c4 cz cn cn2 HS12 HS13;go_wp2_with fail;refine mX HF HS14 fun w15 HS15=>?_;refine mS E i14 [123] (fun hx16 hp16=>?_) fun hn16=>?_
   ·obtain ⟨c0,c1,c4,cz,cn,cn2⟩:=HS15.out.ncell t1;have HS17:=Hd (HS15.out.setK [_] 40);go_wp2_with fail;refine mY HI.out.block zYq HS17 HP 3 fun g18 k18 s18 p18 i18 w18 HS18 hi18=>?_;clear c0 c1 c4 cz cn cn2 HS15 hx16 hp16 HS17;go_wp2_with fail;refine mC HF [_,_] HS18 (gs2 HS18) (fun w19 HS19=>?_);go_wp2_with fail;exact rQ HQ HS19.out.tl.tl
   go_wp2_with fail;refine mC HF [_] HS15 (gs1 HS15) (fun w20 HS20=>?_);go_wp2_with fail;exact rQ HQ HS20.out.tl
  by_cases hx21:(wordZ E j).toList=[91]∨(wordZ E j).toList=[115,116,114,117,99,116]∨(wordZ E j).toList=[109,97,112]∨(wordZ E j).toList=[99,104,97,110]∨(wordZ E j).toList=[105,110,116,101,114,102,97,99,101]
  ·rcases hx21 with hx21 | hx21 | hx21 | hx21 | hx21;all_goals
    have hp21:=jD hx21 (by decide);go_wp2_with fail;refine mX HF HS5 fun w22 HS22=>?_;go_wp2_with fail;refine mO HI.out.typ HS22 HP 2 fun g23 k23 s23 p23 i23 w23 HS23 hi23=>?_;clear hx3 hn6 hn11 hx21 hp21 HS22;go_wp2_with fail;exact rQ HQ HS23.out.pop2.pop2
  simp only [not_or] at hx21;obtain ⟨hn24,hn25,hn26,hn27,hn28⟩:=hx21;replace hn24:=nq hn24;replace hn25:=nq hn25;replace hn26:=nq hn26;replace hn27:=nq hn27;replace hn28:=nq hn28;refine mS E j [60,45] (fun hx29 hp29=>?_) fun hn29=>?_
  ·go_wp2_with fail;refine mX HF HS5 fun w30 HS30=>?_;have hw1:IntKind.i64.wrap ((j:Int)+1)=(j:Int)+1:=wi64 _ (by omega);have c3:=HS30.out.r.c3;have z3:=HS30.out.r.z 3;go_wp2_with fail;refine mQ (xB HF.out HS30.out.r ((j:Int)+1) (by omega)) HS30 fun w31 HS31=>?_;clear hw1 c3 z3 HS30;cases hx32:((wordZ E ((j:Int)+1)).toList == [99,104,97,110]) with
   | true =>
    go_wp2_with fail;refine mO HI.out.typ HS31 HP 2 fun g33 k33 s33 p33 i33 w33 HS33 hi33=>?_;clear hx3 hn6 hn11 hn24 hn25 hn26 hn27 hn28 hx29 hp29 hx32 HS31;go_wp2_with fail;exact rQ HQ HS33.out.pop2.pop2
   | false =>
    go_wp2_with fail;exact mF HS31 HP 2
  go_wp2_with fail;refine mA HF HS5 HP 2 fun g35 i35 w35 HS35 hi35=>?_;clear hx3 hn6 hn11 hn24 hn25 hn26 hn27 hn28 hn29 HS5;go_wp2_with fail;exact rQ HQ HS35.out.pop2.pop2
theorem zQz {m:Nat} (HF:Hid (SynF E)) (HI:Hid (IH E m)):Ok E 191 13 (-7) (m+1):=by
 refine okI HF fun W j I Q HP HQ HS hN hj hm=>?_;go_enter Tryz.func191,Tryz.ntmps191;go_wp2_with fail;refine mP HS 38 fun g1 w1 HS1=>?_;go_wp2_with fail;refine mO HI.out.value HS1 HP 2 fun g2 k2 s2 p2 i2 w2 HS2 hi2=>?_;go_wp2_with fail;refine mM HF HS2 [58] (fun i3 w3 HS3 hi3=>?_) fun w3 HS3=>?_
 ·go_wp2_with fail;refine mO HI.out.value HS3 HP 3 fun g4 k4 s4 p4 i4 w4 HS4 hi4=>?_;go_wp2_with fail;refine mC HF [_,_] HS4 (gs2 HS4) (fun w5 HS5=>?_);go_wp2_with fail;exact rQ HQ HS5.out.tl.tl
 go_wp2_with fail;exact rQ HQ HS3.out.pop2.pop2
theorem zYc {m:Nat} (HF:Hid (SynF E)) (HI:Hid (IH E m)):Ok E 213 12 (-7) (m+1):=by
 refine okI HF fun W j I Q HP HQ HS hN hj hm=>?_;go_enter Tryz.func213,Tryz.ntmps213;go_wp2_with fail;refine mX HF HS fun w1 HS1=>?_;refine mS E j [123] (fun hx2 hp2=>?_) fun hn2=>?_
 ·go_wp2_with fail;refine mP HS1 39 fun g3 w3 HS3=>?_;go_wp2_with fail;refine mZ HS3 0 fun g4 w4 HS4=>?_;go_wp2_with fail;refine mO HI.out.elements HS4 HP 3 fun g5 k5 s5 p5 i5 w5 HS5 hi5=>?_;clear hx2 hp2 HS4;go_wp2_with fail;refine mC HF [_,_] HS5 (gs2 HS5) (fun w6 HS6=>?_);go_wp2_with fail;exact rQ HQ HS6.out.tl.tl
 go_wp2_with fail;refine mO HI.out.expr HS1 HP 0 fun g7 k7 s7 p7 i7 w7 HS7 hi7=>?_;clear hn2 HS1;go_wp2_with fail;exact rQ HQ HS7.out
end
section
variable {E:SynE}
theorem yBj {m:Nat} (HF:Hid (SynF E)) (HI:Hid (IH E m)) {W:World} {j:Nat} {I:List Item} {n k:Nat} {w f t:Int} {v:Value} {gs:List Nat} {ps:List Prt} (HS:Hid (St E W j (.raw n (nodeC k w f t v)::.row v gs ps::I))) (hw:w=-1) (hg:1≤gs.length∧gs.length≤100) (hjN:j+1≤E.N) (hm:64*(E.N-j)+0<m+1):Calls Tryz.prog 147 #[ptrV E.gr,ptrV n] W (PNn E I n (.tuple #[]) (j+1) ((ps.length:Int)+1)):=by
 subst hw;refine nnI HF HS fun Q HP HQ hN hj=>?_;go_enter Tryz.func147,Tryz.ntmps147;obtain ⟨hw,c3,z3,i1,HS1,hi1⟩:=mI HS HS hN;go_wp2_with fail;refine mM HF HS1 [40] (fun i2 w2 HS2 hi2=>?_) fun w2 HS2=>?_
 ·clear c3 z3 hw HS HS1;obtain ⟨c0,c1,c4,cz,cn,cn2⟩:=HS2.out.ncell t0;have HS3:=Hd (HS2.out.setK [] 33);go_wp2_with fail;refine mM HF HS3 [116,121,112,101] (fun i4 w4 HS4 hi4=>?_) fun w4 HS4=>?_
  ·clear c0 c1 c4 cz cn cn2 HS2 HS3;go_wp2_with fail;refine mW HF HS4 [41] HP 2 fun i5 w5 HS5 hi5=>?_;go_wp2_with fail;refine mK (zGz HF.out [] HS5.out (by (try simp);try omega) ⟨by omega,by omega⟩ ⟨by decide,by (try simp [leastK]);try omega⟩) fun w6 HS6=>?_;go_wp2_with fail;go_end0;exact rN HQ HS6.out
  clear c0 c1 c4 cz cn cn2 HS2 HS3;obtain ⟨c0,c1,c4,cz,cn,cn2⟩:=HS4.out.ncell t0;have HS7:=Hd (HS4.out.setK [] 32);go_upto_region 7 with (fail);have HS8d:=Hd (HS7.out.ext (bR _ _).drew);have hS0:(fun X:World=>X.cell? ⟨n,4,none⟩=some (v)) (World.drew (w4.setCell ⟨n,0,none⟩ (.int .u8 32))):=(HS7.out.ncell t0).2.2.1;clear c0 c1 c4 cz cn cn2 HS4 HS7;refine zS (S:=fun X=>X.cell? ⟨n,4,none⟩=some (v)) [11] (by kernel_rfl) ?_;generalize World.drew (w4.setCell ⟨n,0,none⟩ (.int .u8 32))=wd at *;refine tF 0 32 (fun _=>hS0) ?_;refine tF 1 33 (fun _=>hS0) ?_;refine tF 2 34 (fun _=>hS0) ?_;refine tF 3 35 (fun _=>hS0) ?_;refine tU [8,11] 4 36 hS0 ?_;refine tF 5 37 (fun _=>hS0) ?_;refine rU 6 (some 38) fun K hK=>?_;go_simp;refine mO HI.out.typ HS8d HP 2 fun g9 k9 s9 p9 i9 w9 HS9 hi9=>?_;obtain ⟨v',w9a,hr,hs4,a4,n4,c4,rfl⟩:=St.append1 [_,_] HS9.out (.head _) (by (try simp);try omega);have HRUN:=Hd hr;have HS9a:=Hd hs4;have hS1:(fun X:World=>X.cell? ⟨n,4,none⟩=some (v)) w9:=(HS9.out.ncell t1).2.2.1;have hS2:(fun X:World=>X.cell? ⟨n,4,none⟩=some (v)) (w9.alloc (.cells #[ptrV g9] 61)):=((HS9.out.ext ((bR _ _).alloc (nR _) _)).ncell t1).2.2.1;have hS3:(fun X:World=>X.cell? ⟨n,4,none⟩=some (v)) w9a:=(hs4.ncell t1).2.2.1;have HZ:=Hd (hs4.ncell t1);clear hr hs4 hS0 HS8d;(try dsimp only)
  refine hK.out _ _ (fun _=>hS1) ?_;clear hK K;(try simp only [qA,qL,qZ,qS])
  refine rU 7 (some 39) fun K hK=>?_;go_simp;refine hK.out _ _ (fun _=>hS2) ?_;clear hK K;(try simp only [qA,qL,qZ,qS])
  refine rU 8 (some 40) fun K hK=>?_;refine xS _ _ _ _ HRUN.out rfl rfl rfl rfl ?_;refine hK.out _ _ (fun _=>hS3) ?_;clear hK K;(try simp only [qA,qL,qZ,qS])
  refine tF 9 41 (fun _=>hS3) ?_;refine tF 10 42 (fun _=>hS3) ?_;obtain ⟨c0,c1,c4x,cz,cn,cn2⟩:=HZ.out;refine rU 11 none fun K hK=>?_;go_simp;refine hK.out _ _ (fun h=>Bool.noConfusion (h.symm.trans (by kernel_rfl:_=false))) ?_;clear hK K;(try simp only [qA,qL,qZ,qS])
  refine yH (by kernel_rfl) ?_ _;clear hS1 hS2 hS3 HRUN HZ c0 c1 c4x cz;have HS10:=Hd (HS9a.out.setV [_] (.slice a4 n4 c4));clear HS9a;have hwz:∃ wz,wz=w9a.setCell ⟨n,4,none⟩ (.slice a4 n4 c4):=⟨_,rfl⟩;obtain ⟨wz10,hwz⟩:=hwz;rw [← hwz] at HS10 ⊢;clear hwz;go_wp2_with fail;refine mW HF HS10 [41] HP 3 fun i11 w11 HS11 hi11=>?_;go_wp2_with fail;refine mK (zGz HF.out [_] HS11.out (by (try simp);try omega) ⟨by omega,by omega⟩ ⟨by decide,by (try simp [leastK]);try omega⟩) fun w12 HS12=>?_;go_wp2_with fail;go_end0;exact rN HQ HS12.out.tl
 clear c3 z3 hw HS HS1;obtain ⟨c0,c1,c4,cz,cn,cn2⟩:=HS2.out.ncell t0;have HS13:=Hd (HS2.out.setK [] 29);go_wp2_with fail;refine mA HF HS13 HP 2 fun g14 i14 w14 HS14 hi14=>?_;clear c0 c1 c4 cz cn cn2 HS2 HS13;go_wp2_with fail;refine mC HF [_] HS14 (gs1 HS14) (fun w15 HS15=>?_);go_wp2_with fail;go_end0;exact rN HQ HS15.out.tl
theorem zJt {m:Nat} (HF:Hid (SynF E)) (HI:Hid (IH E m)) {W:World} {j:Nat} {I:List Item} {n k:Nat} {w f t:Int} {v:Value} {gs:List Nat} {ps:List Prt} {gl kl:Nat} {sl:List Nat} {pl:List Prt} (HS:Hid (St E W j (.done gl kl sl pl::.raw n (nodeC k w f t v)::.row v gs ps::I))) (hw:w=-1) (hg:1≤gs.length∧gs.length≤100)  (hm:64*(E.N-j)+12<m+1):Calls Tryz.prog 188 #[ptrV E.gr,ptrV n,ptrV gl] W (PNn E I n (ptrV n) j ((ps.length:Int)+pl.length-5)):=by
 subst hw;refine nnI HF HS fun Q HP HQ hN hj=>?_;go_enter Tryz.func188,Tryz.ntmps188;obtain ⟨c0,c1,c4,cz,cn,cn2⟩:=HS.out.ncell t1;have HS1:=Hd (HS.out.setK [_] 31);go_wp2_with fail;refine mZ HS1 0 fun g2 w2 HS2=>?_;clear c0 c1 c4 cz cn cn2 HS HS1;go_wp2_with fail;refine mZ HS2 0 fun g3 w3 HS3=>?_;go_wp2_with fail;refine mX HF HS3 fun w4 HS4=>?_;refine mS E j [93] (fun hx5 hp5=>?_) fun hn5=>?_
 ·go_wp2_with fail;refine mW HF HS4 [93] HP 5 fun i6 w6 HS6 hi6=>?_;clear hx5 hp5 HS4;go_wp2_with fail;refine mC HF [_,_,_] HS6 (gs3 HS6) (fun w7 HS7=>?_);go_wp2_with fail;exact rN HQ HS7.out.tl.tl.tl
 go_wp2_with fail;refine mO HI.out.expr HS4 HP 5 fun g8 k8 s8 p8 i8 w8 HS8 hi8=>?_;clear hn5 HS4;go_wp2_with fail;refine mZ HS8 0 fun g9 w9 HS9=>?_;go_wp2_with fail;refine mM HF HS9 [58] (fun i10 w10 HS10 hi10=>?_) fun w10 HS10=>?_
 ·go_wp2_with fail;refine mO HI.out.expr HS10 HP 7 fun g11 k11 s11 p11 i11 w11 HS11 hi11=>?_;go_wp2_with fail;refine mW HF HS11 [93] HP 8 fun i12 w12 HS12 hi12=>?_;go_wp2_with fail;refine mC HF [_,_,_,_,_,_] HS12 (.cons (HS12.out.ok _ t5) (.cons (HS12.out.ok _ t2) (.cons (HS12.out.ok _ t0) (.nil _ _ _)))) (fun w13 HS13=>?_);go_wp2_with fail;exact rN HQ HS13.out.tl.tl.tl.tl.tl.tl
 go_wp2_with fail;refine mW HF HS10 [93] HP 7 fun i14 w14 HS14 hi14=>?_;go_wp2_with fail;refine mC HF [_,_,_,_,_] HS14 (.cons (HS14.out.ok _ t4) (.cons (HS14.out.ok _ t1) (.cons (HS14.out.ok _ t0) (.nil _ _ _)))) (fun w15 HS15=>?_);go_wp2_with fail;exact rN HQ HS15.out.tl.tl.tl.tl.tl
@[irreducible] def ixRel (E:SynE) (I:List Item) (j:Nat) (b:Int) (kv:Value) (W:World):Prop :=
 ∃ gs ps,∃ i:Nat,(∃ a n c,kv=.slice a n c)∧St E W i (.row kv gs ps::I)∧j≤i∧(ps.length:Int)≤8*((i:Int)-j)+b∧gs.length+j≤i+1
theorem zVa {m:Nat} (HF:Hid (SynF E)) (HI:Hid (IH E m)) {W:World} {j:Nat} {I:List Item} {n k:Nat} {w f t:Int} {v:Value} {gs:List Nat} {ps:List Prt} (HS:Hid (St E W j (.raw n (nodeC k w f t v)::.row v gs ps::I))) (hw:w=-1) (hg:1≤gs.length∧gs.length≤100) (hjN:j+1≤E.N) (hm:64*(E.N-j)+0<m+1):Calls Tryz.prog 151 #[ptrV E.gr,ptrV n] W (PNn E I n (ptrV n) (j+1) ((ps.length:Int)+1)):=by
 subst hw;refine nnI HF HS fun Q HP HQ hN hj=>?_;go_enter Tryz.func151,Tryz.ntmps151;obtain ⟨c0,c1,c4,cz,cn,cn2⟩:=HS.out.ncell t0;have HS1:=Hd (HS.out.setK [] 30);obtain ⟨hw,c3,z3,i2,HS2,hi2⟩:=mI HS HS1 hN;go_wp2_with fail;refine mZ HS2 0 fun g3 w3 HS3=>?_;clear c0 c1 c4 cz cn cn2 HS c3 z3 hw HS1 HS2;go_wp2_with fail;refine mX HF HS3 fun w4 HS4=>?_;refine mS E i2 [58] (fun hx5 hp5=>?_) fun hn5=>?_
 ·have HX:=Hd hx5;go_wp2_with fail;refine mMf HF HS4 [58] (fun i6 w6 HS6 hi6=>?_) fun w6 HS6 hff=>?_
  ·clear hx5 hp5 HS4;go_wp2_with fail;refine mE (zJt HF HI HS6 rfl hg (by omega)) HP 0 fun k7 s7 p7 i7 w7 HS7 hi7=>?_;go_wp2_with fail;exact rN HQ HS7.out
  exact absurd hff (by unfold isW;rw [HX.out];simp)
 go_wp2_with fail;refine mO HI.out.expr HS4 HP 3 fun g8 k8 s8 p8 i8 w8 HS8 hi8=>?_;clear hn5 HS4;go_wp2_with fail;refine mM HF HS8 [58] (fun i9 w9 HS9 hi9=>?_) fun w9 HS9=>?_
 ·have HSp:=Hd HS9.out.pop2;clear HS9;go_wp2_with fail;refine mE (zJt HF HI HSp rfl hg (by omega)) HP 0 fun k10 s10 p10 i10 w10 HS10 hi10=>?_;go_wp2_with fail;exact rN HQ HS10.out
 go_wp2_with fail;have HR:Hid (ixRel E (.done g8 k8 s8 p8::_) i8 (p8.length:Int) (.slice (some ⟨w9.heap.size,0,none⟩) 1 1) (w9.alloc (.cells #[ptrV g8] 61))):=Hd (by
  unfold ixRel;exact ⟨[g8],_,i8,⟨_,_,_,rfl⟩,(HS9.out.lit [g8] _ (by have:=GoodS.cons (HS9.out.ok _ (.head _)) (GoodS.nil _ _ _);simpa using this) (by simp)),by omega,by omega,by simp only [lC,lN];omega⟩)
 go_loopw [6] (fun kv wr=>ixRel E _ i8 (p8.length:Int) kv wr) (fun _ wr=>E.N-rdAt E wr)
 case atStart=>exact HR.out
 case round =>
  unfold ixRel at hrel;obtain ⟨gx,px,i,⟨va,vn,vc,rfl⟩,hst,hji,hps,hgs⟩:=hrel;have HSr:=Hd hst;have hiN:=hst.r.le;have HM0:Hid (E.N-rdAt E wr=E.N-i):=Hd (by rw [HSr.out.rdAt]);clear hst HR HS9;go_wp2_with fail;refine mX HF HSr fun w11 HS11=>?_;refine mS E i [44] (fun hx12 hp12=>?_) fun hn12=>?_
  ·have hw1:IntKind.i64.wrap ((i:Int)+1)=(i:Int)+1:=wi64 _ (by omega);have c3:=HS11.out.r.c3;have z3:=HS11.out.r.z 3;go_wp2_with fail;refine mQ (xB HF.out HS11.out.r ((i:Int)+1) (by omega)) HS11 fun w13 HS13=>?_;clear hw1 c3 z3 HS11;cases hx14:((wordZ E ((i:Int)+1)).toList == [93]) with
   | true =>
    go_wp2_with fail;refine mD HF HS13 11 fun g15 w15 HS15=>?_;go_wp2_with fail;refine mM HF HS15 [44] (fun i16 w16 HS16 hi16=>?_) fun w16 HS16=>?_
    ·clear hx12 hp12 hx14 HS15;go_wp2_with fail;refine mW HF HS16 [93] HP 5 fun i17 w17 HS17 hi17=>?_;go_wp2_with fail;refine mC HF [_,_,_] HS17 (gs1 HS17) (fun w18 HS18=>?_);go_wp2_with fail;exact rN HQ HS18.out.tl.tl.tl
    go_wp2_with fail;refine mW HF HS16 [93] HP 5 fun i19 w19 HS19 hi19=>?_;clear hx12 hp12 hx14 HS16;go_wp2_with fail;refine mC HF [_,_,_] HS19 (gs1 HS19) (fun w20 HS20=>?_);go_wp2_with fail;exact rN HQ HS20.out.tl.tl.tl
   | false =>
    obtain ⟨hw,c3,z3,i21,HS21,hi21⟩:=mI HS13 HS13 hN;go_wp2_with fail;refine mO HI.out.expr HS21 HP 5 fun g22 k22 s22 p22 i22 w22 HS22 hi22=>?_;clear c3 z3 hw HS13 hx12 hp12 hx14 HS21;obtain ⟨v',w22a,hr,hs4,a4,n4,c4,rfl⟩:=St.append1 [_] HS22.out (.head _) (by omega);have HRUN:=Hd hr;have HR:Hid (ixRel E _ i8 (p8.length:Int) (.slice a4 n4 c4) w22a):=Hd (by
     unfold ixRel;exact ⟨_,_,_,⟨_,_,_,rfl⟩,hs4.tl,by omega,by (try simp only [lA,lC,lN]);omega,by simp;omega⟩)
    have HM:Hid (E.N-rdAt E w22a<E.N-rdAt E wr):=Hd (by rw [HM0.out,hs4.rdAt];omega);clear hr hs4;go_wp2_with (at_builtin;refine zE rfl _ _ _ _ HRUN.out rfl rfl rfl rfl ?_);exact ⟨HR.out,HM.out⟩
  go_wp2_with fail;refine mD HF HS11 11 fun g23 w23 HS23=>?_;go_wp2_with fail;refine mM HF HS23 [44] (fun i24 w24 HS24 hi24=>?_) fun w24 HS24=>?_
  ·clear hn12 HS23;go_wp2_with fail;refine mW HF HS24 [93] HP 5 fun i25 w25 HS25 hi25=>?_;go_wp2_with fail;refine mC HF [_,_,_] HS25 (gs1 HS25) (fun w26 HS26=>?_);go_wp2_with fail;exact rN HQ HS26.out.tl.tl.tl
  go_wp2_with fail;refine mW HF HS24 [93] HP 5 fun i27 w27 HS27 hi27=>?_;clear hn12 HS24;go_wp2_with fail;refine mC HF [_,_,_] HS27 (gs1 HS27) (fun w28 HS28=>?_);go_wp2_with fail;exact rN HQ HS28.out.tl.tl.tl
end
end Go.Proofs.YtbjkdmbcpkopjaaGreatDoor
