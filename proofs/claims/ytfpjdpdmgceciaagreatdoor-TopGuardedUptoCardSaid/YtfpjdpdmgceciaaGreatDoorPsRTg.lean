/- Layer 12: the readers of statements by their words (printed by tools/genpsr.py). -/
import Derived.Test.YtfpjdpdmgceciaaGreatDoorPsITg
import Derived.ChangeMaps4
import Derived.Test.YtfpjdpdmgceciaaGreatDoorPsVTg
import Derived.Test.YtfpjdpdmgceciaaGreatDoorUntilTg
namespace Go.Proofs.YtfpjdpdmgceciaaGreatDoor
set_option maxRecDepth 100000
set_option maxHeartbeats 32000000
set_option linter.all false
attribute [local irreducible] Calls
attribute [local irreducible] wpStill
open Go.RowKit
abbrev mapT:TypeId:=164
def rdL:List (List UInt8×FuncId):=[([99,111,110,115,116],185),([118,97,114],185),([116,121,112,101],185),([103,111],186),([100,101,102,101,114],186),([114,101,116,117,114,110],187),([98,114,101,97,107],188),([99,111,110,116,105,110,117,101],188),([103,111,116,111],188),([102,97,108,108,116,104,114,111,117,103,104],188),([123],111),([105,102],189),([115,119,105,116,99,104],190),([115,101,108,101,99,116],191),([102,111,114],192)]
def rdEs(l:List (List UInt8×FuncId))(n:Nat):List MapEntry:=match l with
 |[]=>[]
 |x::r=>⟨.string ⟨x.1.toArray⟩,.func (.func x.2) #[] #[],n⟩::rdEs r (n+1)
def RdMap(W:World)(b:Nat):Prop:=W.heap[b]?=some (.map (rdEs rdL 0).toArray 15)
theorem vD{w:World}{b:Nat}{es:Array MapEntry}{c:Nat}(h:w.heap[b]?=some (.map es c))(k:ByteArray)(v:Value)(hf:Instr.findNow .string (.string k) es.toList 0=some none) :
  ∃w',(Instr.mapUpdate mapT (.map (some b)) (.string k) v).run Tryz.prog w=.ok () w'/\w'.heap[b]?=some (.map (es.push ⟨.string k,v,c⟩) (c+1))/\Below b w w':=by
 refine⟨{ w with heap:=w.heap.setIfInBounds b (.map (es.push ⟨.string k,v,c⟩) (c+1)) },?_,(MapKept.heap_set h).1,⟨rfl,rfl,rfl,Ob,λi hi=>(MapKept.heap_set h).2 i Z⟩⟩;simp[Instr.mapUpdate,run_underlying Tryz.underlying164,MapKept.run_getObj_map h,MapKept.run_checkKey Tryz.underlying9 (k:=.string k) trivial,MapKept.run_findKey Tryz.underlying9 hf,MapKept.run_setObj_map _ h,Result.andThen]
theorem zPs{w:World}{b:Nat}{es:Array MapEntry}{c:Nat}(h:w.heap[b]?=some (.map es c))(s:ByteArray){r:Option (Nat×Value)}(hf:Instr.findNow .string (.string s) es.toList 0=some r) :
  (Instr.lookup mapT (.map (some b)) (.string s) true).run Tryz.prog w=.ok (.tuple #[(r.map (·.2)).getD .nilFunc,.bool r.isSome]) w:=by
 have hz:(zeroValue 162).run Tryz.prog w=.ok .nilFunc w:=Oa;cases r with
 |none=>simp[Instr.lookup,run_underlying Tryz.underlying164,MapKept.run_getObj_map h,MapKept.run_checkKey Tryz.underlying9 (k:=.string s) trivial,MapKept.run_findKey Tryz.underlying9 hf,Result.andThen,hz]
 |some x=>simp[Instr.lookup,run_underlying Tryz.underlying164,MapKept.run_getObj_map h,MapKept.run_checkKey Tryz.underlying9 (k:=.string s) trivial,MapKept.run_findKey Tryz.underlying9 hf,Result.andThen]
def rdF(l:List (List UInt8×FuncId))(x:List UInt8):Option FuncId:=match l with
 |[]=>none
 |y::r=>if x==y.1 then some y.2 else rdF r x
theorem zMr(s:ByteArray):∀(l:List (List UInt8×FuncId))(n i:Nat),∃r,Instr.findNow .string (.string s) (rdEs l n) i=some r/\r.map (·.2)=(rdF l s.toList).map (λf=>Value.func (.func f) #[] #[])
 |[],n,i=>⟨none,rfl,rfl⟩
 |x::l,n,i=>by
  have hb:(s==(⟨x.1.toArray⟩:ByteArray))=(s.toList==x.1):=by
   rw[Bool.eq_iff_iff,MapKept.bytes_beq,beq_iff_eq];constructor
   .intro e;rw[e];simp
   .intro e;rw[ByteArray.toList_eq]at e;exact ByteArray.ext (by rw[<-e])
  cases hx:(s.toList==x.1)with
  |true=>exact⟨some (i,.func (.func x.2) #[] #[]),by simp[rdEs,Instr.findNow,Instr.sameNow,hb,hx],by simp[rdF,hx]⟩
  |false =>
   obtain⟨r,h1,h2⟩:=zMr s l (n+1) (i+1);exact⟨r,by simp[rdEs,Instr.findNow,Instr.sameNow,hb,hx,h1],by simp[rdF,hx,h2]⟩
theorem zAk{W:World}{b:Nat}(h:RdMap W b){s:ByteArray}{l:List UInt8}(hs:s.toList=l){f:FuncId}(hf:rdF rdL l=some f):(Instr.lookup mapT (.map (some b)) (.string s) true).run Tryz.prog W=.ok (.tuple #[.func (.func f) #[] #[],.bool true]) W:=by
 obtain⟨r,h1,h2⟩:=zMr s rdL 0 0;rw[hs,hf]at h2;have:=zPs h s (by simpa using h1);rw[this];cases r with
 |none=>cases h2
 |some x=>simp at h2;simp[h2]
theorem yIr{W:World}{b:Nat}(h:RdMap W b){s:ByteArray}(hf:rdF rdL s.toList=none):(Instr.lookup mapT (.map (some b)) (.string s) true).run Tryz.prog W=.ok (.tuple #[.nilFunc,.bool false]) W:=by
 obtain⟨r,h1,h2⟩:=zMr s rdL 0 0;rw[hf]at h2;have:=zPs h s (by simpa using h1);rw[this];cases r with
 |none=>simp
 |some x=>cases h2
theorem zPt(W:World):Calls Tryz.prog 150 #[] W (λe W'=>e=.returned (.map (some W.heap.size))/\Below W.heap.size W W'/\RdMap W' W.heap.size):=by
 have r0:=run_makeMap (P:=Tryz.prog) mapT W;have m0:(W.alloc (.map #[] 0)).heap[W.heap.size]?=some (.map #[] 0):=heap_alloc_new _ _;have b0:Below W.heap.size W (W.alloc (.map #[] 0)):=(bR _ _).alloc (nR _) _;generalize hw0:W.alloc (.map #[] 0)=w0 at *;clear hw0;obtain⟨w1,r1,m1,c1⟩:=vD m0 ⟨#[99,111,110,115,116]⟩ (.func (.func 185) #[] #[]) Oa;have b1:=b0.trans c1;clear m0 b0 c1;obtain⟨w2,r2,m2,c2⟩:=vD m1 ⟨#[118,97,114]⟩ (.func (.func 185) #[] #[]) Oa;have b2:=b1.trans c2;clear m1 b1 c2;obtain⟨w3,r3,m3,c3⟩:=vD m2 ⟨#[116,121,112,101]⟩ (.func (.func 185) #[] #[]) Oa;have b3:=b2.trans c3;clear m2 b2 c3;obtain⟨w4,r4,m4,c4⟩:=vD m3 ⟨#[103,111]⟩ (.func (.func 186) #[] #[]) Oa;have b4:=b3.trans c4;clear m3 b3 c4;obtain⟨w5,r5,m5,c5⟩:=vD m4 ⟨#[100,101,102,101,114]⟩ (.func (.func 186) #[] #[]) Oa;have b5:=b4.trans c5;clear m4 b4 c5;obtain⟨w6,r6,m6,c6⟩:=vD m5 ⟨#[114,101,116,117,114,110]⟩ (.func (.func 187) #[] #[]) Oa;have b6:=b5.trans c6;clear m5 b5 c6;obtain⟨w7,r7,m7,c7⟩:=vD m6 ⟨#[98,114,101,97,107]⟩ (.func (.func 188) #[] #[]) Oa;have b7:=b6.trans c7;clear m6 b6 c7;obtain⟨w8,r8,m8,c8⟩:=vD m7 ⟨#[99,111,110,116,105,110,117,101]⟩ (.func (.func 188) #[] #[]) Oa;have b8:=b7.trans c8;clear m7 b7 c8;obtain⟨w9,r9,m9,c9⟩:=vD m8 ⟨#[103,111,116,111]⟩ (.func (.func 188) #[] #[]) Oa;have b9:=b8.trans c9;clear m8 b8 c9;obtain⟨w10,r10,m10,c10⟩:=vD m9 ⟨#[102,97,108,108,116,104,114,111,117,103,104]⟩ (.func (.func 188) #[] #[]) Oa;have b10:=b9.trans c10;clear m9 b9 c10;obtain⟨w11,r11,m11,c11⟩:=vD m10 ⟨#[123]⟩ (.func (.func 111) #[] #[]) Oa;have b11:=b10.trans c11;clear m10 b10 c11;obtain⟨w12,r12,m12,c12⟩:=vD m11 ⟨#[105,102]⟩ (.func (.func 189) #[] #[]) Oa;have b12:=b11.trans c12;clear m11 b11 c12;obtain⟨w13,r13,m13,c13⟩:=vD m12 ⟨#[115,119,105,116,99,104]⟩ (.func (.func 190) #[] #[]) Oa;have b13:=b12.trans c13;clear m12 b12 c13;obtain⟨w14,r14,m14,c14⟩:=vD m13 ⟨#[115,101,108,101,99,116]⟩ (.func (.func 191) #[] #[]) Oa;have b14:=b13.trans c14;clear m13 b13 c14;obtain⟨w15,r15,m15,c15⟩:=vD m14 ⟨#[102,111,114]⟩ (.func (.func 192) #[] #[]) Oa;have b15:=b14.trans c15;clear m14 b14 c15;have HM:Hid (RdMap w15 W.heap.size):=Hd m15;have HB:=Hd b15;clear m15 b15;go_enter Tryz.func150,Tryz.ntmps150;go_wp2_with fail;go_ret;exact⟨rfl,HB.out,HM.out⟩
section
variable {E:SynE}
theorem yEw{m:Nat}(HF:Hid (SynF E))(HI:Hid (IH E m)):Ok E 102 28 (-6) (m+1):=by
 refine okI HF λW j I Q HP HQ HS hN hj hm=>?_;go_enter Tryz.func102,Tryz.ntmps102;go_wp2_with fail;refine(zPt _).mono ?_;rintro e w1 ⟨rfl,hb,hmp⟩;have HS1:=Hd (HS.out.ext hb);have HMp:=Hd hmp;clear hb hmp HS;go_wp2_with fail;refine(gO HF.out HS1.out.r).mono ?_;rintro e w2 ⟨rfl,hb⟩;have HS2:=Hd (HS1.out.ext hb);have HMq:Hid (RdMap w2 W.heap.size):=Hd (keeps hb HMp.out);clear hb HMp HS1;by_cases hx3:(wordZ E j).toList=[99,111,110,115,116]\/(wordZ E j).toList=[118,97,114]\/(wordZ E j).toList=[116,121,112,101]
 .rcases hx3 with hx3|hx3|hx3;all_goals
   have hp3:=gP hx3 V;have hlk:=zAk HMq.out hx3 (f:=185) rfl;go_wp2_with fail;refine mO1 HI.out.declared HS2 HP 0 λg4 k4 s4 p4 i4 w4 HS4 hi4=>?_;clear hlk hx3 hp3 HS2;go_wp2_with fail;exact rQ HQ HS4.out
 simp only[not_or]at hx3;obtain⟨hn5,hn6,hn7⟩:=hx3;replace hn5:=nq hn5;replace hn6:=nq hn6;replace hn7:=nq hn7;by_cases hx8:(wordZ E j).toList=[103,111]\/(wordZ E j).toList=[100,101,102,101,114]
 .rcases hx8 with hx8|hx8;all_goals
   have hp8:=gP hx8 V;have hlk:=zAk HMq.out hx8 (f:=186) rfl;go_wp2_with fail;refine mO1 HI.out.started HS2 HP 0 λg9 k9 s9 p9 i9 w9 HS9 hi9=>?_;clear hlk hn5 hn6 hn7 hx8 hp8 HS2;go_wp2_with fail;exact rQ HQ HS9.out
 simp only[not_or]at hx8;obtain⟨hn10,hn11⟩:=hx8;replace hn10:=nq hn10;replace hn11:=nq hn11;refine mS E j [114,101,116,117,114,110] (λhx12 hp12=>?_) λhn12=>?_
 .have hlk:=zAk HMq.out hx12 (f:=187) rfl;go_wp2_with fail;refine mO1 HI.out.returned HS2 HP 0 λg13 k13 s13 p13 i13 w13 HS13 hi13=>?_;clear hlk hn5 hn6 hn7 hn10 hn11 hx12 hp12 HS2;go_wp2_with fail;exact rQ HQ HS13.out
 by_cases hx14:(wordZ E j).toList=[98,114,101,97,107]\/(wordZ E j).toList=[99,111,110,116,105,110,117,101]\/(wordZ E j).toList=[103,111,116,111]\/(wordZ E j).toList=[102,97,108,108,116,104,114,111,117,103,104]
 .rcases hx14 with hx14|hx14|hx14|hx14;all_goals
   have hp14:=gP hx14 V;have hlk:=zAk HMq.out hx14 (f:=188) rfl;go_wp2_with fail;refine mO1 HI.out.branch HS2 HP 0 λg15 k15 s15 p15 i15 w15 HS15 hi15=>?_;clear hlk hn5 hn6 hn7 hn10 hn11 hn12 hx14 hp14 HS2;go_wp2_with fail;exact rQ HQ HS15.out
 simp only[not_or]at hx14;obtain⟨hn16,hn17,hn18,hn19⟩:=hx14;replace hn16:=nq hn16;replace hn17:=nq hn17;replace hn18:=nq hn18;replace hn19:=nq hn19;refine mS E j [123] (λhx20 hp20=>?_) λhn20=>?_
 .have hlk:=zAk HMq.out hx20 (f:=111) rfl;go_wp2_with fail;refine mO HI.out.block HS2 HP 0 λg21 k21 s21 p21 i21 w21 HS21 hi21=>?_;clear hlk hn5 hn6 hn7 hn10 hn11 hn12 hn16 hn17 hn18 hn19 hx20 hp20 HS2;go_wp2_with fail;exact rQ HQ HS21.out
 refine mS E j [105,102] (λhx22 hp22=>?_) λhn22=>?_
 .have hlk:=zAk HMq.out hx22 (f:=189) rfl;go_wp2_with fail;refine mO1 HI.out.ifs HS2 HP 0 λg23 k23 s23 p23 i23 w23 HS23 hi23=>?_;clear hlk hn5 hn6 hn7 hn10 hn11 hn12 hn16 hn17 hn18 hn19 hn20 hx22 hp22 HS2;go_wp2_with fail;exact rQ HQ HS23.out
 refine mS E j [115,119,105,116,99,104] (λhx24 hp24=>?_) λhn24=>?_
 .have hlk:=zAk HMq.out hx24 (f:=190) rfl;go_wp2_with fail;refine mO1 HI.out.switches HS2 HP 0 λg25 k25 s25 p25 i25 w25 HS25 hi25=>?_;clear hlk hn5 hn6 hn7 hn10 hn11 hn12 hn16 hn17 hn18 hn19 hn20 hn22 hx24 hp24 HS2;go_wp2_with fail;exact rQ HQ HS25.out
 refine mS E j [115,101,108,101,99,116] (λhx26 hp26=>?_) λhn26=>?_
 .have hlk:=zAk HMq.out hx26 (f:=191) rfl;go_wp2_with fail;refine mO1 HI.out.selects HS2 HP 0 λg27 k27 s27 p27 i27 w27 HS27 hi27=>?_;clear hlk hn5 hn6 hn7 hn10 hn11 hn12 hn16 hn17 hn18 hn19 hn20 hn22 hn24 hx26 hp26 HS2;go_wp2_with fail;exact rQ HQ HS27.out
 refine mS E j [102,111,114] (λhx28 hp28=>?_) λhn28=>?_
 .have hlk:=zAk HMq.out hx28 (f:=192) rfl;go_wp2_with fail;refine mO1 HI.out.fors HS2 HP 0 λg29 k29 s29 p29 i29 w29 HS29 hi29=>?_;clear hlk hn5 hn6 hn7 hn10 hn11 hn12 hn16 hn17 hn18 hn19 hn20 hn22 hn24 hn26 hx28 hp28 HS2;go_wp2_with fail;exact rQ HQ HS29.out
 have hlk:=yIr HMq.out (s:=wordZ E j) (by simp[rdF,rdL,hn5,hn6,hn7,hn10,hn11,hn12,hn16,hn17,hn18,hn19,hn20,hn22,hn24,hn26,hn28]);have c3:=HS2.out.r.c3;have z3:=HS2.out.r.z 3;go_wp2_with fail;refine mQ (xS HF.out HS2.out.r ((j:Int)) Z) HS2 λw30 HS30=>?_;clear hlk c3 z3 HS2;cases hx31:namedB E (j:Int)with
 |true =>
  have hw1:IntKind.i64.wrap ((j:Int)+1)=(j:Int)+1:=wi64 _ Z;have c3:=HS30.out.r.c3;have z3:=HS30.out.r.z 3;go_wp2_with fail;refine mQ (yX HF.out HS30.out.r ((j:Int)+1) Z) HS30 λw32 HS32=>?_;clear hw1 c3 z3 HS30;cases hx33:((wordZ E ((j:Int)+1)).toList==[58])with
  |true =>
   have hp1:j+1+1<=E.N:=gP (j:=j+1) (w:=[58]) (by simpa using hx33) V;go_wp2_with fail;refine mP HS32 67 λg34 w34 HS34=>?_;go_wp2_with fail;refine mA HF HS34 HP 2 λg35 i35 w35 HS35 hi35=>?_;obtain⟨hw,c3,z3,i36,HS36,hi36⟩:=mI HS35 HS35 hN;go_wp2_with fail;refine mZ HS36 49 λg37 w37 HS37=>?_;clear c3 z3 hw HS35 HS36;go_wp2_with fail;refine mT (zLa HF.out HS37.out.r) HS37 λbb w38 HS38=>?_;cases bb with
   |true =>
    go_wp2_with fail;refine mC HF [_,_] HS38 (gs2 HS38) (λw39 HS39=>?_);go_wp2_with fail;exact rQ HQ HS39.out.tl.tl
   |false =>
    go_wp2_with fail;refine mO HI.out.stmt HS38 HP 4 λg40 k40 s40 p40 i40 w40 HS40 hi40=>?_;go_wp2_with fail;refine mC HF [_,_,_] HS40 (.cons (HS40.out.ok _ t2) (.cons (HS40.out.ok _ t0) (.nil _ _ _))) (λw41 HS41=>?_);go_wp2_with fail;exact rQ HQ HS41.out.tl.tl.tl
  |false =>
   go_wp2_with fail;refine mO HI.out.simple HS32 HP 0 λg42 k42 s42 p42 i42 w42 HS42 hi42=>?_;clear hn5 hn6 hn7 hn10 hn11 hn12 hn16 hn17 hn18 hn19 hn20 hn22 hn24 hn26 hn28 hx31 hx33 HS32;go_wp2_with fail;exact rQ HQ HS42.out
 |false =>
  go_wp2_with fail;refine mO HI.out.simple HS30 HP 0 λg43 k43 s43 p43 i43 w43 HS43 hi43=>?_;clear hn5 hn6 hn7 hn10 hn11 hn12 hn16 hn17 hn18 hn19 hn20 hn22 hn24 hn26 hn28 hx31 HS30;go_wp2_with fail;exact rQ HQ HS43.out
theorem yHo{m:Nat}(HF:Hid (SynF E))(HI:Hid (IH E m)):OkN E 189 2 (-6) (m+1):=by
 refine okJ HF λW j I Q HP HQ HS hN hj hjN hm=>?_;have hmf:=mkf;go_enter Tryz.func189,Tryz.ntmps189;go_wp2_with fail;refine mP HS 59 λg1 w1 HS1=>?_;obtain⟨hw,c3,z3,i2,HS2,hi2⟩:=mI HS1 HS1 hN;go_wp2_with fail;refine mZ HS2 0 λg3 w3 HS3=>?_;clear c3 z3 hw HS1 HS2;go_wp2_with fail;refine mX HF HS3 λw4 HS4=>?_;refine mS E i2 [59] (λhx5 hp5=>?_) λhn5=>?_
 .go_wp2_with fail;refine mW HF HS4 [59] HP 3 λi6 w6 HS6 hi6=>?_;clear hx5 hp5 HS4;go_wp2_with fail;refine mH HI.out.expr zAl HS6 HP 3 λg7 k7 s7 p7 i7 w7 HS7 hi7=>?_;go_wp2_with fail;refine mO HI.out.block HS7 HP 4 λg8 k8 s8 p8 i8 w8 HS8 hi8=>?_;go_wp2_with fail;refine mM HF HS8 [101,108,115,101] (λi9 w9 HS9 hi9=>?_) λw9 HS9=>?_
  .go_wp2_with fail;refine mX HF HS9 λw10 HS10=>?_;refine mS E i9 [105,102] (λhx11 hp11=>?_) λhn11=>?_
   .go_wp2_with fail;refine mO1 HI.out.ifs HS10 HP 5 λg12 k12 s12 p12 i12 w12 HS12 hi12=>?_;clear hx11 hp11 HS10;go_wp2_with fail;refine mC HF [_,_,_,_] HS12 (gs4 HS12) (λw13 HS13=>?_);go_wp2_with fail;exact rQ HQ HS13.out.tl.tl.tl.tl
   go_wp2_with fail;refine mO HI.out.block HS10 HP 5 λg14 k14 s14 p14 i14 w14 HS14 hi14=>?_;clear hn11 HS10;go_wp2_with fail;refine mC HF [_,_,_,_] HS14 (gs4 HS14) (λw15 HS15=>?_);go_wp2_with fail;exact rQ HQ HS15.out.tl.tl.tl.tl
  go_wp2_with fail;refine mZ HS9 0 λg16 w16 HS16=>?_;go_wp2_with fail;refine mC HF [_,_,_,_] HS16 (gs4 HS16) (λw17 HS17=>?_);go_wp2_with fail;exact rQ HQ HS17.out.tl.tl.tl.tl
 go_wp2_with fail;refine mH HI.out.simple gF HS4 HP 3 λg18 k18 s18 p18 i18 w18 HS18 hi18=>?_;clear hn5 HS4;go_wp2_with fail;refine mX HF HS18 λw19 HS19=>?_;refine mS E i18 [59] (λhx20 hp20=>?_) λhn20=>?_
 .go_wp2_with fail;refine mW HF HS19 [59] HP 4 λi21 w21 HS21 hi21=>?_;clear hx20 hp20 HS19;go_wp2_with fail;refine mH HI.out.expr zAl HS21 HP 4 λg22 k22 s22 p22 i22 w22 HS22 hi22=>?_;go_wp2_with fail;refine mO HI.out.block HS22 HP 5 λg23 k23 s23 p23 i23 w23 HS23 hi23=>?_;go_wp2_with fail;refine mM HF HS23 [101,108,115,101] (λi24 w24 HS24 hi24=>?_) λw24 HS24=>?_
  .go_wp2_with fail;refine mX HF HS24 λw25 HS25=>?_;refine mS E i24 [105,102] (λhx26 hp26=>?_) λhn26=>?_
   .go_wp2_with fail;refine mO1 HI.out.ifs HS25 HP 6 λg27 k27 s27 p27 i27 w27 HS27 hi27=>?_;clear hx26 hp26 HS25;go_wp2_with fail;refine mC HF [_,_,_,_,_] HS27 (gs4 HS27) (λw28 HS28=>?_);go_wp2_with fail;exact rQ HQ HS28.out.tl.tl.tl.tl.tl
   go_wp2_with fail;refine mO HI.out.block HS25 HP 6 λg29 k29 s29 p29 i29 w29 HS29 hi29=>?_;clear hn26 HS25;go_wp2_with fail;refine mC HF [_,_,_,_,_] HS29 (gs4 HS29) (λw30 HS30=>?_);go_wp2_with fail;exact rQ HQ HS30.out.tl.tl.tl.tl.tl
  go_wp2_with fail;refine mZ HS24 0 λg31 w31 HS31=>?_;go_wp2_with fail;refine mC HF [_,_,_,_,_] HS31 (gs4 HS31) (λw32 HS32=>?_);go_wp2_with fail;exact rQ HQ HS32.out.tl.tl.tl.tl.tl
 go_wp2_with fail;refine mN (zBl HS19.out t0) HP 4 λg33 k33 s33 p33 i33 w33 HS33 hi33=>?_;clear hn20 HS19;go_wp2_with fail;refine mO HI.out.block HS33 HP 5 λg34 k34 s34 p34 i34 w34 HS34 hi34=>?_;go_wp2_with fail;refine mM HF HS34 [101,108,115,101] (λi35 w35 HS35 hi35=>?_) λw35 HS35=>?_
 .go_wp2_with fail;refine mX HF HS35 λw36 HS36=>?_;refine mS E i35 [105,102] (λhx37 hp37=>?_) λhn37=>?_
  .go_wp2_with fail;refine mO1 HI.out.ifs HS36 HP 6 λg38 k38 s38 p38 i38 w38 HS38 hi38=>?_;clear hx37 hp37 HS36;go_wp2_with fail;refine mC HF [_,_,_,_,_] HS38 (.cons (HS38.out.ok _ t4) (.cons (HS38.out.ok _ t2) (.cons (HS38.out.ok _ t1) (.cons (HS38.out.ok _ t0) (.nil _ _ _))))) (λw39 HS39=>?_);go_wp2_with fail;exact rQ HQ HS39.out.tl.tl.tl.tl.tl
  go_wp2_with fail;refine mO HI.out.block HS36 HP 6 λg40 k40 s40 p40 i40 w40 HS40 hi40=>?_;clear hn37 HS36;go_wp2_with fail;refine mC HF [_,_,_,_,_] HS40 (.cons (HS40.out.ok _ t4) (.cons (HS40.out.ok _ t2) (.cons (HS40.out.ok _ t1) (.cons (HS40.out.ok _ t0) (.nil _ _ _))))) (λw41 HS41=>?_);go_wp2_with fail;exact rQ HQ HS41.out.tl.tl.tl.tl.tl
 go_wp2_with fail;refine mZ HS35 0 λg42 w42 HS42=>?_;go_wp2_with fail;refine mC HF [_,_,_,_,_] HS42 (.cons (HS42.out.ok _ t4) (.cons (HS42.out.ok _ t2) (.cons (HS42.out.ok _ t1) (.cons (HS42.out.ok _ t0) (.nil _ _ _))))) (λw43 HS43=>?_);go_wp2_with fail;exact rQ HQ HS43.out.tl.tl.tl.tl.tl
end
end Go.Proofs.YtfpjdpdmgceciaaGreatDoor
