/- Layer 12: expressions: expr, unary (printed by tools/gensyn2.py). -/
import Derived.Test.YtbjkdmbcpkopjaaGreatDoorPsVMt
import Derived.Test.YtbjkdmbcpkopjaaGreatDoorUntilMt
import Derived.Deep.RegionHeld3
namespace Go.Proofs.YtbjkdmbcpkopjaaGreatDoor
set_option maxRecDepth 100000
set_option maxHeartbeats 32000000
set_option linter.all false
attribute [local irreducible] Calls
attribute [local irreducible] wpStill
open Go.RowKit

section
variable {E:SynE}
theorem yBd {m:Nat} (HF:Hid (SynF E)) (HI:Hid (IH E m)):Ok E 40 11 (-7) (m+1):=by
 refine okI HF fun W j I Q HP HQ HS hN hj hm=>?_;go_enter Tryz.func40,Tryz.ntmps40;go_wp2_with fail;refine mBi HI 1 HS HP 0 fun g1 k1 s1 p1 i1 w1 HS1 hi1=>?_;go_wp2_with fail;exact rQ HQ HS1.out
theorem zXy {m:Nat} (HF:Hid (SynF E)) (HI:Hid (IH E m)):Ok E 95 9 (-7) (m+1):=by
 refine okI HF fun W j I Q HP HQ HS hN hj hm=>?_;go_enter Tryz.func95,Tryz.ntmps95;go_wp2_with fail;refine mP HS 36 fun g1 w1 HS1=>?_;go_wp2_with fail;refine mX HF HS1 fun w2 HS2=>?_;refine mS E j [60,45] (fun hx3 hp3=>?_) fun hn3=>?_
 ·have hw1:IntKind.i64.wrap ((j:Int)+1)=(j:Int)+1:=wi64 _ (by omega);have c3:=HS2.out.r.c3;have z3:=HS2.out.r.z 3;go_wp2_with fail;refine mQ (xB HF.out HS2.out.r ((j:Int)+1) (by omega)) HS2 fun w4 HS4=>?_;clear hw1 c3 z3 HS2;cases hx5:((wordZ E ((j:Int)+1)).toList == [99,104,97,110]) with
  | true =>
   go_wp2_with fail;refine mO HI.out.primary HS4 HP 2 fun g6 k6 s6 p6 i6 w6 HS6 hi6=>?_;clear hx3 hp3 hx5 HS4;go_wp2_with fail;exact rQ HQ HS6.out.pop2.pop2
  | false =>
   obtain ⟨c0,c1,c4,cz,cn,cn2⟩:=HS4.out.ncell t0;have c3:=HS4.out.r.c3;have z3:=HS4.out.r.z 3;have HS7:=Hd (HS4.out.setW [] (j:Int));obtain ⟨hw,-,-,i8,HS8,hi8⟩:=mI HS7 HS7 hN;go_wp2_with fail;refine mO HI.out.unary HS8 HP 2 fun g9 k9 s9 p9 i9 w9 HS9 hi9=>?_;clear c0 c1 c4 cz cn cn2 c3 z3 HS4 hw HS7 hx3 hp3 hx5 HS8;go_wp2_with fail;refine mC HF [_] HS9 (gs1 HS9) (fun w10 HS10=>?_);go_wp2_with fail;exact rQ HQ HS10.out.tl
 by_cases hx11:(wordZ E j).toList=[43]∨(wordZ E j).toList=[45]∨(wordZ E j).toList=[33]∨(wordZ E j).toList=[94]∨(wordZ E j).toList=[38]
 ·rcases hx11 with hx11 | hx11 | hx11 | hx11 | hx11;all_goals
   have hp11:=jD hx11 (by decide);obtain ⟨c0,c1,c4,cz,cn,cn2⟩:=HS2.out.ncell t0;have c3:=HS2.out.r.c3;have z3:=HS2.out.r.z 3;have HS12:=Hd (HS2.out.setW [] (j:Int));obtain ⟨hw,-,-,i13,HS13,hi13⟩:=mI HS12 HS12 hN;go_wp2_with fail;refine mO HI.out.unary HS13 HP 2 fun g14 k14 s14 p14 i14 w14 HS14 hi14=>?_;clear c0 c1 c4 cz cn cn2 c3 z3 HS2 hw HS12 hn3 hx11 hp11 HS13;go_wp2_with fail;refine mC HF [_] HS14 (gs1 HS14) (fun w15 HS15=>?_);go_wp2_with fail;exact rQ HQ HS15.out.tl
 simp only [not_or] at hx11;obtain ⟨hn16,hn17,hn18,hn19,hn20⟩:=hx11;replace hn16:=nq hn16;replace hn17:=nq hn17;replace hn18:=nq hn18;replace hn19:=nq hn19;replace hn20:=nq hn20;refine mS E j [42] (fun hx21 hp21=>?_) fun hn21=>?_
 ·obtain ⟨c0,c1,c4,cz,cn,cn2⟩:=HS2.out.ncell t0;have HS22:=Hd (HS2.out.setK [] 35);obtain ⟨hw,c3,z3,i23,HS23,hi23⟩:=mI HS2 HS22 hN;go_wp2_with fail;refine mO HI.out.unary HS23 HP 2 fun g24 k24 s24 p24 i24 w24 HS24 hi24=>?_;clear c0 c1 c4 cz cn cn2 HS2 c3 z3 hw HS22 hn3 hn16 hn17 hn18 hn19 hn20 hx21 hp21 HS23;go_wp2_with fail;refine mC HF [_] HS24 (gs1 HS24) (fun w25 HS25=>?_);go_wp2_with fail;exact rQ HQ HS25.out.tl
 go_wp2_with fail;refine mO HI.out.primary HS2 HP 2 fun g26 k26 s26 p26 i26 w26 HS26 hi26=>?_;clear hn3 hn16 hn17 hn18 hn19 hn20 hn21 HS2;go_wp2_with fail;exact rQ HQ HS26.out.pop2.pop2
end
section
variable {E:SynE}
theorem jC {m:Nat} (HF:Hid (SynF E)) (HI:Hid (IH E m)) {W:World} {j:Nat} {I:List Item} {n k:Nat} {w f t:Int} {v:Value} {gs:List Nat} {ps:List Prt} (HS:Hid (St E W j (.raw n (nodeC k w f t v)::.row v gs ps::I))) (hk:k<256∧leastK k=0) (hw:-1≤w∧w<E.N) (hl:gs.length≤1000) (hm:64*(E.N-j)+7<m+1):Calls Tryz.prog 94 #[ptrV E.gr,ptrV n] W (PNn E I n (ptrV n) j ((ps.length:Int)-6)):=by
 refine nnI HF HS fun Q HP HQ hN hj=>?_;go_enter Tryz.func94,Tryz.ntmps94;go_wp2_with fail;refine mO HI.out.typ HS HP 2 fun g1 k1 s1 p1 i1 w1 HS1 hi1=>?_;obtain ⟨hk1,hk2⟩:=hk;go_wp2_with fail;refine mC HF [_] HS1 (gs1 HS1) (fun w2 HS2=>?_) (hw:=hw) (hk:=⟨hk1,by rw [hk2];omega⟩);go_wp2_with fail;exact rN HQ HS2.out.tl
theorem zEj {m:Nat} (HF:Hid (SynF E)) (HI:Hid (IH E m)) {W:World} {j:Nat} {I:List Item} {n k:Nat} {w f t:Int} (HS:Hid (St E W j (.raw n (nodeC k w f t (.slice none 0 0))::.row (.slice none 0 0) [] []::I))) (hk:k<256∧leastK k=0) (hw:-1≤w∧w<E.N) (K:Nat) (hK:K<256∧leastK K=0) {fv:Value} {fk:FuncId} {fa:Array Value} (hv:FnV fv fk fa) (hc:∀ W' i J,j<i→St E W' i J→Calls Tryz.prog fk fa W' (PNd E J i (-5))) (hm:64*(E.N-j)+0<m+1):Calls Tryz.prog 91 #[ptrV E.gr,ptrV n,.int .u8 (K:Int),fv] W (PNn E I n (ptrV n) j (-7)):=by
 have HV:=Hd hv;have HC:=Hd hc;have hva:=hv.1;clear hv hc;refine nnI HF HS fun Q HP HQ hN hj=>?_;rcases hva with rfl | rfl;all_goals
  go_enter Tryz.func91,Tryz.ntmps91;go_wp2_with fail;refine mR HF HS [123] [59] [125] HV.out (-5) (fun W' i J h1 h2=>HC.out _ _ _ (by omega) h2) HP 2 fun a1 n1 c1 s1 p1 i1 w1 HS1 hi1=>?_;go_wp2_with fail;refine mD HF HS1 K (fun g2 w2 HS2=>?_) hK;go_wp2_with fail;refine mW HF HS2 [125] HP 3 fun i3 w3 HS3 hi3=>?_;obtain ⟨hk1,hk2⟩:=hk;go_wp2_with fail;refine mC HF [_] HS3 (gs1 HS3) (fun w4 HS4=>?_) (hw:=hw) (hk:=⟨hk1,by rw [hk2];omega⟩);go_wp2_with fail;exact rN HQ HS4.out.tl
theorem zBl {m:Nat} (HF:Hid (SynF E)) (HI:Hid (IH E m)) {W:World} {j:Nat} {I:List Item} (HS:Hid (St E W j I)) {fv:Value} {fk:FuncId} {fa:Array Value} (hv:FnV fv fk fa) (hc:∀ W' i J,j<i→St E W' i J→Calls Tryz.prog fk fa W' (PNd E J i (-5))) (hm:64*(E.N-j)+0<m+1):Calls Tryz.prog 121 #[ptrV E.gr,fv] W (PNd E I j (-7)):=by
 have HV:=Hd hv;have HC:=Hd hc;have hva:=hv.1;clear hv hc;refine pnI HF HS fun Q HP HQ hN hj=>?_;rcases hva with rfl | rfl;all_goals
  go_enter Tryz.func121,Tryz.ntmps121;have hw1:IntKind.i64.wrap ((j:Int)+1)=(j:Int)+1:=wi64 _ (by omega);have c3:=HS.out.r.c3;have z3:=HS.out.r.z 3;go_wp2_with fail;refine mQ (xB HF.out HS.out.r ((j:Int)+1) (by omega)) HS fun w1 HS1=>?_;clear hw1 c3 z3 HS;cases hx2:((wordZ E ((j:Int)+1)).toList == [93]) with
  | true =>
   have hp1:j+1+1≤E.N:=jD (j:=j+1) (w:=[93]) (by simpa using hx2) (by decide);obtain ⟨hw,c3,z3,i3,HS3,hi3⟩:=mI HS1 HS1 hN;go_wp2_with fail;exact mF HS3 HP 0
  | false =>
   go_wp2_with fail;refine mR HF HS1 [91] [44] [93] HV.out (-5) (fun W' i J h1 h2=>HC.out _ _ _ (by omega) h2) HP 0 fun a5 n5 c5 s5 p5 i5 w5 HS5 hi5=>?_;clear hx2 HS1;go_wp2_with fail;refine mD HF HS5 11 fun g6 w6 HS6=>?_;go_wp2_with fail;refine mW HF HS6 [93] HP 1 fun i7 w7 HS7 hi7=>?_;go_wp2_with fail;exact rQ HQ HS7.out
theorem zNs {m:Nat} (HF:Hid (SynF E)) (HI:Hid (IH E m)):Ok E 88 4 (-7) (m+1):=by
 refine okI HF fun W j I Q HP HQ HS hN hj hm=>?_;have hmf:=mkf;go_enter Tryz.func88,Tryz.ntmps88;go_wp2_with fail;refine mP HS 30 fun g1 w1 HS1=>?_;go_wp2_with fail;refine mA HF HS1 HP 2 fun g2 i2 w2 HS2 hi2=>?_;go_wp2_with fail;refine mX HF HS2 fun w3 HS3=>?_;refine mS E i2 [46] (fun hx4 hp4=>?_) fun hn4=>?_
 ·obtain ⟨hw,c3,z3,i5,HS5,hi5⟩:=mI HS3 HS3 hN;go_wp2_with fail;refine mA HF HS5 HP 3 fun g6 i6 w6 HS6 hi6=>?_;clear c3 z3 hw HS3 hx4 hp4 HS5;obtain ⟨bc2,bc3⟩:=HS6.out.nfrom t2;have HB:Hid (∀ W',Below w6.heap.size w6 W'→W'.cell? ⟨g1,2,none⟩=some (.int .i64 (j:Int))∧W'.cell? ⟨E.gr,3,none⟩=some (.int .i64 (i6:Int))):=Hd (fun W' hb=>⟨(hb.cell (p:=⟨g1,2,none⟩) bc3).trans bc2,(HS6.out.ext hb).r.c3⟩);clear bc2 bc3;go_upto_region 6 with (fail)
  go_region_held3 (fun W'=>W'.cell? ⟨g1,2,none⟩=some (.int .i64 (j:Int))∧W'.cell? ⟨E.gr,3,none⟩=some (.int .i64 (i6:Int))) (first | exact HB.out _ (bR _ _).drew | exact HB.out _ ((bR _ _).drew.alloc (nR _) _) | exact HB.out _ ((bR _ _).alloc (nR _) _).drew | exact HB.out _ ((((bR _ _).alloc (nR _) _).alloc (by simp) _).drew)) (fail)
  have HS7:=Hd ((St.close [] (((HS6.out.lit [g2,g6] _ (.cons (HS6.out.ok _ t1) (.cons (HS6.out.ok _ t0) (.nil _ _ _))) (by simp)).new (nodeC 29 (-1) j i6 (.slice (some ⟨w6.heap.size,0,none⟩) 2 2)))) ⟨by omega,by omega⟩ ⟨by decide,by simp [leastK]⟩).ext (bR _ _).drew);clear HB HS6;have HW:Hid (w6.heap.size+1=(w6.alloc (.cells (ptrsV [g2,g6]).toArray 61)).heap.size):=Hd (by simp);obtain ⟨gz,hgz⟩:∃ gz,gz=(w6.alloc (.cells (ptrsV [g2,g6]).toArray 61)).heap.size:=⟨_,rfl⟩;rw [← hgz] at HW HS7;rw [HW.out];clear HW hgz;generalize hwz:((w6.alloc (.cells #[ptrV g2,ptrV g6] 61)).alloc (nodeC 29 (-1) j i6 (.slice (some ⟨w6.heap.size,0,none⟩) 2 2))).drew=wz at *;have HSz:Hid (St E wz i6 _):=Hd (hwz ▸ HS7.out);clear hwz HS7;go_wp2_with fail;refine mX HF HSz fun w8 HS8=>?_;refine mS E i6 [91] (fun hx9 hp9=>?_) fun hn9=>?_
  ·go_wp2_with fail;refine mN (zBl HF HI HS8 zYr (fun W' i J h1 h2=>(HI.out.typ _ _ _ h2 (by have:=h2.r.le;omega)).mono fun _ _ h=>h.weak (by decide)) (by omega)) HP 5 fun g11 k11 s11 p11 i11 w11 HS11 hi11=>?_;clear hx9 hp9 HS8;go_wp2_with fail;refine mC HF [_,_,_,_] HS11 (gs2 HS11) (fun w12 HS12=>?_);go_wp2_with fail;exact rQ HQ HS12.out.tl.tl.tl.tl
  go_wp2_with fail;exact rQ HQ HS8.out.pop2.pop2.pop2.pop2
 go_wp2_with fail;refine mX HF HS3 fun w13 HS13=>?_;refine mS E i2 [91] (fun hx14 hp14=>?_) fun hn14=>?_
 ·go_wp2_with fail;refine mN (zBl HF HI HS13 zYr (fun W' i J h1 h2=>(HI.out.typ _ _ _ h2 (by have:=h2.r.le;omega)).mono fun _ _ h=>h.weak (by decide)) (by omega)) HP 3 fun g16 k16 s16 p16 i16 w16 HS16 hi16=>?_;clear hn4 hx14 hp14 HS13;go_wp2_with fail;refine mC HF [_,_] HS16 (gs2 HS16) (fun w17 HS17=>?_);go_wp2_with fail;exact rQ HQ HS17.out.tl.tl
 go_wp2_with fail;exact rQ HQ HS13.out.pop2.pop2
end
section
variable {E:SynE}
theorem zIs {m:Nat} (HF:Hid (SynF E)) (HI:Hid (IH E m)) {W:World} {j:Nat} {I:List Item} {rb:Nat} (HS:Hid (St E W j I)) (hb:.raw rb (.cells #[ptrV E.gr] 64 (0,0))∈I) (hm:64*(E.N-j)+7<m+1):Calls Tryz.prog 190 #[ptrV rb] W (PNd E I j (-15)):=by
 refine pnI HF HS fun Q HP HQ hN hj=>?_;have hmf:=mkf;go_enter Tryz.func190,Tryz.ntmps190;have b_rb:=HS.out.box hb;go_upto_region 1 with (fail);have HS1d:=Hd (HS.out.ext (bR _ _).drew);have hS0:(fun X:World=>X.cell? ⟨rb,0,none⟩=some (ptrV E.gr)) (World.drew W):=HS.out.box hb;clear b_rb HS;refine zS (S:=fun X=>X.cell? ⟨rb,0,none⟩=some (ptrV E.gr)) [] (by kernel_rfl) ?_;generalize World.drew W=wd at *;refine tU [] 0 3 hS0 ?_;refine tU [] 1 4 hS0 ?_;refine tU [] 2 5 hS0 ?_;refine tF 3 6 (fun _=>hS0) ?_;refine rU 4 (some 7) fun K hK=>?_;go_simp;refine mR1 HF HS1d [123] [44] [125] HI.out.element zRh HP 0 fun a2 n2 c2 s2 p2 i2 w2 HS2 hi2=>?_;have hS2:(fun X:World=>X.cell? ⟨rb,0,none⟩=some (ptrV E.gr)) w2:=HS2.out.box (.tail _ hb);(try dsimp only)
 refine hK.out _ _ (fun _=>hS2) ?_;clear hK K;(try simp only [qA,qL,qZ,qS])
 refine rU 5 (some 8) fun K hK=>?_;go_simp;refine mD HF HS2 12 fun g3 w3 HS3=>?_;have hS3:(fun X:World=>X.cell? ⟨rb,0,none⟩=some (ptrV E.gr)) w3:=HS3.out.box (.tail _ hb);(try dsimp only)
 refine hK.out _ _ (fun _=>hS3) ?_;clear hK K;(try simp only [qA,qL,qZ,qS])
 refine tF 6 2 (fun _=>hS3) ?_;refine yH (by kernel_rfl) ?_ _;clear hS0;have b_rb:=HS3.out.box (.tail _ hb);go_wp2_with fail;refine mW HF HS3 [125] HP 1 fun i4 w4 HS4 hi4=>?_;clear b_rb HS3;have b_rb:=HS4.out.box (.tail _ hb);go_wp2_with fail;exact rQ HQ HS4.out
theorem zNt {m:Nat} (HF:Hid (SynF E)) (HI:Hid (IH E m)):Ok E 153 7 (-15) (m+1):=by
 refine okI HF fun W j I Q HP HQ HS hN hj hm=>?_;have hmf:=mkf;go_enter Tryz.func153,Tryz.ntmps153;have HS0:=Hd (HS.out.new (.cells #[ptrV E.gr] 64));clear HS;go_upto_region 1 with (fail);generalize W.alloc (.cells #[ptrV E.gr] 64)=wb at *;generalize W.heap.size=rb at *;have b_rb:=HS0.out.box t0;go_wp2_with fail;refine mN (gY (PNd.tightQ _ _ _) (FnV.clos (k:=190) Tryz.func190 (by kernel_rfl) rfl #[ptrV rb]) HS0.out (fun W' h'=>zIs HF HI (Hd h') t0 (by omega))) HP 1 fun g1 k1 s1 p1 i1 w1 HS1 hi1=>?_;clear b_rb HS0;have b_rb:=HS1.out.box t1;go_wp2_with fail;exact rQ HQ HS1.out.pop2
end
@[irreducible] def PX (E:SynE) (I:List Item) (n:Nat) (ps:List Prt) (e:Ending) (W':World):Prop:=∃ g k gs,∃ i:Nat,i=n∧e=.returned (ptrV g)∧St E W' i (.done g k gs ps::I)
structure OpF (E:SynE) (j:Nat):Prop where
 l:litK E (j:Int)=false
 w:(wordZ E (j:Int)).toList=[]
 n:namedB E (j:Int)=true
section
variable {E:SynE} {W:World} {j n:Nat} {I:List Item} {ps:List Prt} {Q Q':Ending→World→Prop} {f:FuncId} {args:Array Value}
theorem xV (h:Calls Tryz.prog f args W (PX E I n ps)) (k:∀ g k gs i W',Hid (St E W' i (.done g k gs ps::I))→Hid (i=n)→Q' (.returned (ptrV g)) W'):Calls Tryz.prog f args W Q' :=
 h.mono fun e W' h'=>by
  unfold PX at h';obtain ⟨g,k',gs,i,hi,rfl,hs⟩:=h';exact k _ _ _ _ _ (Hd hs) (Hd hi)
theorem xI (HF:Hid (SynF E)) (HS:Hid (St E W j I)) (k:∀ Q,Hid (∀ W g k gs i,i=n→St E W i (.done g k gs ps::I)→Q (.returned (ptrV g)) W)→E.N≤1000000→j≤E.N→Calls Tryz.prog f args W Q):Calls Tryz.prog f args W (PX E I n ps) :=
 k _ (Hd fun W g k gs i hi h=>by unfold PX;exact ⟨g,k,gs,i,hi,rfl,h⟩) (SynF.N HF) HS.out.r.le
theorem xA (HF:Hid (SynF E)) (HS:Hid (St E W j I)) (hn:namedB E (j:Int)=true) (k:∀ g i W',Hid (St E W' i (.done g 26 [] [(26,0,textZ E 26 j)]::I))→Hid (i=j+1)→Q' (.returned (ptrV g)) W'):Calls Tryz.prog 62 #[ptrV E.gr] W Q' :=
 (zNv HF.out HS.out).mono fun e W' h'=>by
  unfold PL at h';rw [hn] at h';rcases h' with ⟨_,g,rfl,hs⟩ | ⟨h,_⟩
  ·exact k _ _ _ (Hd hs) (Hd rfl)
  ·cases h
theorem zUp (HF:Hid (SynF E)) (HS:Hid (St E W j I)) (ho:OpF E j):Calls Tryz.prog 146 #[ptrV E.gr] W (PX E I (j+1) [(26,0,textZ E 26 j)]):=by
 refine xI HF HS fun Q HQ hN hj=>?_;have hmf:=mkf;obtain ⟨hl,hw,hn⟩:=ho;go_enter Tryz.func146,Tryz.ntmps146;go_wp2_with fail;refine mP HS 28 fun g1 w1 HS1=>?_;have c3:=HS1.out.r.c3;have z3:=HS1.out.r.z 3;go_wp2_with fail;refine mQ (zEk HF.out HS1.out.r (j:Int) (by omega)) HS1 fun w2 HS2=>?_;clear c3 z3 HS1 HS;rw [hl];go_wp2_with fail;refine mX HF HS2 fun w5 HS5=>?_;clear HS2;go_wp2_with fail;refine xA HF HS5 hn fun g6 i6 w6 HS6 hi6=>?_;go_wp2_with fail;exact HQ.out _ _ _ _ _ hi6.out HS6.out.pop2.pop2
@[irreducible] def xpRel (E:SynE) (I:List Item) (n:Nat) (ps:List Prt) (xv:Value) (W:World):Prop:=∃ g k gs,∃ i:Nat,xv=ptrV g∧i=n∧St E W i (.done g k gs ps::I)
theorem zUq (HF:Hid (SynF E)) (HS:Hid (St E W j I)) (ho:OpF E j) {w:List UInt8} (hx:∀ i:Nat,i=j+1→(wordZ E (i:Int)).toList=w) (hw:w=[43]∨w=[59]):Calls Tryz.prog 126 #[ptrV E.gr] W (PX E I (j+1) [(26,0,textZ E 26 j)]):=by
 refine xI HF HS fun Q HQ hN hj=>?_;have hmf:=mkf;have HO:=Hd ho;have HX:=Hd hx;clear ho hx;go_enter Tryz.func126,Tryz.ntmps126;have HS0:=Hd (HS.out.new (.cells #[ptrV E.gr] 64));clear HS;go_upto_region 1 with (fail);generalize W.alloc (.cells #[ptrV E.gr] 64)=wb at *;generalize W.heap.size=rb at *;have c3:=HS0.out.r.c3;have z3:=HS0.out.r.z 3;have b_rb:=HS0.out.box t0;go_wp2_with fail;refine xV (zUp HF HS0 HO.out) fun g1 k1 s1 i1 w1 HS1 hi1=>?_;clear c3 z3 b_rb HS0 HO;have HR:Hid (xpRel E (.raw rb (.cells #[ptrV E.gr] 64 (0,0))::I) (j+1) [(26,0,textZ E 26 j)] (ptrV g1) w1):=Hd (by
  unfold xpRel;exact ⟨_,_,_,_,rfl,hi1.out,HS1.out⟩)
 have b_rb:=HS1.out.box t1;go_wp2_with fail;go_loopw [4] (fun xv wr=>xpRel E (.raw rb (.cells #[ptrV E.gr] 64 (0,0))::I) (j+1) [(26,0,textZ E 26 j)] xv wr) (fun _ wr=>E.N-rdAt E wr)
 case atStart=>exact HR.out
 case round =>
  unfold xpRel at hrel;obtain ⟨g,kx,gs,i,rfl,hi,hst⟩:=hrel;have HS:=Hd hst;have hiN:=hst.r.le;have HJ:=Hd hi;have hxi:=HX.out i hi;clear hst HR HS1 hi hi1 HX;have HSa:=Hd (((HS.out.lit [g] _ (by have:=GoodS.cons (HS.out.ok _ (.head _)) (GoodS.nil _ _ _);simpa using this) (by simp)).new (nodeC 0 (-1) j 0 (.slice (some ⟨wr.heap.size,0,none⟩) 1 1))).new (.cells #[ptrV (wr.heap.size+1)] 61));rw [show (wr.alloc (.cells (ptrsV [g]).toArray 61)).heap.size=wr.heap.size+1 by simp,show ((wr.alloc (.cells (ptrsV [g]).toArray 61)).alloc (nodeC 0 (-1) j 0 (.slice (some ⟨wr.heap.size,0,none⟩) 1 1))).heap.size=wr.heap.size+1+1 by simp] at HSa;clear HS;go_upto_region 4 with (fail);have HSb:Hid (St E (((wr.alloc (.cells #[ptrV g] 61)).alloc (nodeC 0 (-1) j 0 (.slice (some ⟨wr.heap.size,0,none⟩) 1 1))).alloc (.cells #[ptrV (wr.heap.size+1)] 61)) i (.raw (wr.heap.size+1+1) (.cells #[ptrV (wr.heap.size+1)] 61 (0,0))::.raw (wr.heap.size+1) (nodeC 0 (-1) j 0 (.slice (some ⟨wr.heap.size,0,none⟩) 1 1))::.row (.slice (some ⟨wr.heap.size,0,none⟩) 1 1) [g] [(26,0,textZ E 26 j)]::.done g kx gs [(26,0,textZ E 26 j)]::.raw rb (.cells #[ptrV E.gr] 64 (0,0))::I)):=Hd HSa.out;clear HSa;generalize ((wr.alloc (.cells #[ptrV g] 61)).alloc (nodeC 0 (-1) j 0 (.slice (some ⟨wr.heap.size,0,none⟩) 1 1))).alloc (.cells #[ptrV (wr.heap.size+1)] 61)=wc at *;generalize wr.heap.size+1+1=nb at *;generalize wr.heap.size+1=n at *;generalize wr.heap.size=lb at *;have b_rb:=HSb.out.box t4;have b_nb:=HSb.out.box t0;go_wp2_with fail;refine mX HF HSb fun w2 HS2=>?_;clear b_rb b_nb HSb;rcases hw with rfl | rfl;all_goals
   have b_rb:=HS2.out.box t4;have b_nb:=HS2.out.box t0;go_wp2_with fail;exact HQ.out _ _ _ _ _ HJ.out HS2.out.tl.tl.tl.pop2
theorem zTd (HF:Hid (SynF E)) (HS:Hid (St E W j I)) (ho:OpF E j) {w:List UInt8} (hx:∀ i:Nat,i=j+1→(wordZ E (i:Int)).toList=w) (hw:w=[43]∨w=[59]):Calls Tryz.prog 95 #[ptrV E.gr] W (PX E I (j+1) [(26,0,textZ E 26 j)]):=by
 refine xI HF HS fun Q HQ hN hj=>?_;have HX:=Hd hx;have HO:=Hd ho;have HW:=Hd hw;have hwj:=ho.w;clear hx ho hw;go_enter Tryz.func95,Tryz.ntmps95;go_wp2_with fail;refine mP HS 36 fun g1 w1 HS1=>?_;go_wp2_with fail;refine mX HF HS1 fun w2 HS2=>?_;clear HS HS1;go_wp2_with fail;refine xV (zUq HF HS2 HO.out HX.out HW.out) fun g26 k26 s26 i26 w26 HS26 hi26=>?_;clear HS2 hwj;go_wp2_with fail;exact HQ.out _ _ _ _ _ hi26.out HS26.out.pop2.pop2
theorem yCs (HF:Hid (SynF E)) (HS:Hid (St E W j I)) (ho:OpF E j) (hx:∀ i:Nat,i=j+1→(wordZ E (i:Int)).toList=[59]):Calls Tryz.prog 58 #[ptrV E.gr,.int .i64 5] W (PX E I (j+1) [(26,0,textZ E 26 j)]):=by
 refine xI HF HS fun Q HQ hN hj=>?_;have HX:=Hd hx;have HO:=Hd ho;clear hx ho;go_enter Tryz.func58,Tryz.ntmps58;have c3:=HS.out.r.c3;have z3:=HS.out.r.z 3;go_wp2_with fail;refine xV (zTd HF HS HO.out HX.out (Or.inr rfl)) fun g1 k1 s1 i1 w1 HS1 hi1=>?_;clear c3 z3 HS;have HR:Hid (xpRel E I (j+1) [(26,0,textZ E 26 j)] (ptrV g1) w1):=Hd (by
  unfold xpRel;exact ⟨_,_,_,_,rfl,hi1.out,HS1.out⟩)
 go_wp2_with fail;go_loopw [6] (fun xv wr=>xpRel E I (j+1) [(26,0,textZ E 26 j)] xv wr) (fun _ wr=>E.N-rdAt E wr)
 case atStart=>exact HR.out
 case round =>
  unfold xpRel at hrel;obtain ⟨g,kx,gs,i,rfl,hi,hst⟩:=hrel;have HS:=Hd hst;have HJ:=Hd hi;have hv:lvZ (wordZ E (i:Int)).toList=0:=by rw [HX.out i hi];rfl
  clear hst HR HS1 hi hi1 HX HO;go_wp2_with fail;refine mX HF HS fun w2 HS2=>?_;go_wp2_with fail;refine (zAz _ _).mono ?_;rintro e w3 ⟨rfl,rfl⟩;rw [hv];clear hv;go_wp2_with fail;exact HQ.out _ _ _ _ _ HJ.out HS2.out
@[irreducible] def xbRel (E:SynE) (I:List Item) (j:Nat) (p1 p3:List Prt) (xv:Value) (W:World):Prop:=∃ g k gs ps,∃ i:Nat,xv=ptrV g∧((i=j+1∧ps=p1)∨(i=j+3∧ps=p3))∧St E W i (.done g k gs ps::I)
abbrev sumP (E:SynE) (j:Nat):List Prt:=[(37,2,textZ E 37 ((j+1:Nat):Int)),(26,0,textZ E 26 (j:Int)),(26,0,textZ E 26 ((j+2:Nat):Int))]
theorem yCt (HF:Hid (SynF E)) (HS:Hid (St E W j I)) (ho:OpF E j) (ho2:∀ i:Nat,i=j+2→OpF E i) (hx:∀ i:Nat,i=j+1→(wordZ E (i:Int)).toList=[43]) (hx3:∀ i:Nat,i=j+3→(wordZ E (i:Int)).toList=[59]):Calls Tryz.prog 58 #[ptrV E.gr,.int .i64 1] W (PX E I (j+3) (sumP E j)):=by
 refine xI HF HS fun Q HQ hN hj=>?_;have HX:=Hd hx;have HX3:=Hd hx3;have HO:=Hd ho;have HO2:=Hd ho2;clear hx ho ho2 hx3;go_enter Tryz.func58,Tryz.ntmps58;have c3:=HS.out.r.c3;have z3:=HS.out.r.z 3;go_wp2_with fail;refine xV (zTd HF HS HO.out HX.out (Or.inl rfl)) fun g1 k1 s1 i1 w1 HS1 hi1=>?_;clear c3 z3 HS;have HR:Hid (xbRel E I j [(26,0,textZ E 26 j)] (sumP E j) (ptrV g1) w1):=Hd (by
  unfold xbRel;exact ⟨_,_,_,_,_,rfl,Or.inl ⟨hi1.out,rfl⟩,HS1.out⟩)
 go_wp2_with fail;go_loopw [6] (fun xv wr=>xbRel E I j [(26,0,textZ E 26 j)] (sumP E j) xv wr) (fun _ wr=>E.N-rdAt E wr)
 case atStart=>exact HR.out
 case round =>
  unfold xbRel at hrel;obtain ⟨g,kx,gs,ps,i,rfl,hor,hst⟩:=hrel;have HS:=Hd hst;have hiN:=hst.r.le;have HM0:Hid (E.N-rdAt E wr=E.N-i):=Hd (by rw [HS.out.rdAt]);clear hst HR HS1 hi1;rcases hor with ⟨hi,rfl⟩ | ⟨hi,rfl⟩
  ·have HJ:=Hd hi;have hv:lvZ (wordZ E (i:Int)).toList=4:=by rw [HX.out i hi];rfl
   have hp:i+1≤E.N:=jD (HX.out i hi) (by decide);clear hi HX;go_wp2_with fail;refine mX HF HS fun w2 HS2=>?_;go_wp2_with fail;refine (zAz _ _).mono ?_;rintro e w3 ⟨rfl,rfl⟩;rw [hv];clear hv;obtain ⟨i4,HS4,hi4⟩:∃ i4,Hid (St E (w2.setCell ⟨E.gr,3,none⟩ (.int .i64 ((i:Int)+1))) i4 (.done g kx gs [(26,0,textZ E 26 j)]::I))∧Hid (i4=i+1):=⟨i+1,Hd (HS2.out.at' (i+1) hp),Hd rfl⟩;have c3:=HS2.out.r.c3;have z3:=HS2.out.r.z 3;have hw:IntKind.i64.wrap ((i:Int)+1)=(i:Int)+1:=wi64 _ (by omega);have h4:i4=j+2:=by have:=HJ.out;have:=hi4.out;omega
   have HC:=Hd (yCs HF HS4 (HO2.out i4 h4) (fun i h=>HX3.out i (by omega)));clear h4;go_wp2_with fail;refine xV HC.out fun g5 k5 s5 i5 w5 HS5 hi5=>?_;clear hw HC HS2 HS4 c3 z3 HS;have h5:i5=j+3∧i4=j+2∧i=j+1:=by have:=HJ.out;have:=hi4.out;have:=hi5.out;omega
   have h5N:=HS5.out.r.le;have c3:=HS5.out.r.c3;have z3:=HS5.out.r.z 3;have HX1:=Hd (St.close [] (((HS5.out.lit [g,g5] _ (.cons (HS5.out.ok _ (.tail _ (.head _))) (.cons (HS5.out.ok _ (.head _)) (.nil _ _ _))) (by simp)).new (nodeC 37 i j i5 (.slice (some ⟨w5.heap.size,0,none⟩) 2 2)))) ⟨by omega,by omega⟩ ⟨by decide,by simp [leastK]⟩);have HR:Hid (xbRel E I j [(26,0,textZ E 26 j)] (sumP E j) (ptrV (w5.heap.size+1)) ((w5.alloc (.cells #[ptrV g,ptrV g5] 61)).alloc (nodeC 37 i j i5 (.slice (some ⟨w5.heap.size,0,none⟩) 2 2)))):=Hd (by
    unfold xbRel;have h:=HX1.out.pop2.pop2;refine ⟨_,_,_,_,_,by simp,Or.inr ⟨h5.1,?_⟩,h⟩;rw [h5.2.1,h5.2.2];rfl)
   have HM:Hid (E.N-rdAt E ((w5.alloc (.cells #[ptrV g,ptrV g5] 61)).alloc (nodeC 37 i j i5 (.slice (some ⟨w5.heap.size,0,none⟩) 2 2)))<E.N-rdAt E wr):=Hd (by rw [HM0.out];rw [show rdAt E ((w5.alloc (.cells #[ptrV g,ptrV g5] 61)).alloc (nodeC 37 i j i5 (.slice (some ⟨w5.heap.size,0,none⟩) 2 2)))=i5 from HX1.out.rdAt];omega);clear HX1 h5;go_wp2_with fail;exact ⟨HR.out,HM.out⟩
  ·have HJ:=Hd hi;have hv:lvZ (wordZ E (i:Int)).toList=0:=by rw [HX3.out i hi];rfl
   clear hi HX HX3;go_wp2_with fail;refine mX HF HS fun w2 HS2=>?_;go_wp2_with fail;refine (zAz _ _).mono ?_;rintro e w3 ⟨rfl,rfl⟩;rw [hv];clear hv;go_wp2_with fail;exact HQ.out _ _ _ _ _ HJ.out HS2.out
theorem yCu (HF:Hid (SynF E)) (HS:Hid (St E W j I)) (ho:OpF E j) (ho2:∀ i:Nat,i=j+2→OpF E i) (hx:∀ i:Nat,i=j+1→(wordZ E (i:Int)).toList=[43]) (hx3:∀ i:Nat,i=j+3→(wordZ E (i:Int)).toList=[59]):Calls Tryz.prog 40 #[ptrV E.gr] W (PX E I (j+3) (sumP E j)):=by
 refine xI HF HS fun Q HQ hN hj=>?_;have HC:=Hd (yCt HF HS ho ho2 hx hx3);clear ho ho2 hx hx3;go_enter Tryz.func40,Tryz.ntmps40;go_wp2_with fail;refine xV HC.out fun g1 k1 s1 i1 w1 HS1 hi1=>?_;go_wp2_with fail;exact HQ.out _ _ _ _ _ hi1.out HS1.out
end
end Go.Proofs.YtbjkdmbcpkopjaaGreatDoor
