/- Layer 16: the program's Check, walked. -/
import Derived.Test.YtbjkdmbcpkopjaaGreatDoorUpsWMt
import Derived.Test.YtbjkdmbcpkopjaaGreatDoorChkPMt
import Derived.Test.YtbjkdmbcpkopjaaGreatDoorMapUMt
import Derived.Test.YtbjkdmbcpkopjaaGreatDoorU8bMt
namespace Go.Proofs.YtbjkdmbcpkopjaaGreatDoor
set_option maxRecDepth 100000
set_option maxHeartbeats 32000000
set_option linter.all false
attribute [local irreducible] Calls
open Go.RowKit

def RK (W:World) (g:Nat) (nm:ByteArray) (goal:Nat) (vh vf vb:Value):Prop:=W.heap[g]?=some (.cells #[.string nm,.int .u8 (goal:Int),vh,vf,vb] 41 (0,0))
theorem RK.cells {W:World} {g:Nat} {nm:ByteArray} {goal:Nat} {vh vf vb:Value} (h:RK W g nm goal vh vf vb):W.cell? ⟨g,0,none⟩=some (.string nm)∧W.cell? ⟨g,1,none⟩=some (.int .u8 (goal:Int))∧W.cell? ⟨g,2,none⟩=some vh∧W.cell? ⟨g,3,none⟩=some vf∧W.cell? ⟨g,4,none⟩=some vb:=by
 unfold RK at h;simp only [World.cell?,h];exact ⟨rfl,rfl,rfl,rfl,rfl⟩
theorem RK.below {W W':World} {g:Nat} {nm:ByteArray} {goal:Nat} {vh vf vb:Value} (h:RK W g nm goal vh vf vb) (hb:Below W.heap.size W W'):RK W' g nm goal vh vf vb:=by
 unfold RK at *;exact keeps hb h
theorem SmallL.fine {l:List Prt} (h:SmallL l):FineP l:=fun p hp=>⟨(h.2 p hp).1,by have:=(h.2 p hp).2;omega⟩
def rcOne (hs:List Hl) (w0:World) (cv iv:Value) (wr:World):Prop:=∃ k n:Nat,iv=.int .i64 (k:Int)∧cv=.int .i64 (n:Int)∧k≤hs.length∧n=sevN (hs.take k)∧Below w0.heap.size w0 wr
def rcTwo (r:RuleM) (bm:Nat) (w0:World) (iv:Value) (wr:World):Prop:=∃ k:Nat,iv=.int .i64 (k:Int)∧k≤r.holes.length∧(∀ i,i<k→holeB r i=true)∧MapIs wr bm k (seenM (r.holes.take k))∧Below bm w0 wr
theorem zHn (r:RuleM) (hs:SmallR r) (vh vf vb:Value) (w:World) (hT:Tabs w) (hM:MaxC w) (hr:RuleIn w r vh vf vb) :
  Calls Tryz.prog 31 #[ruleAgg r vh vf vb] w fun e w'=>e=.returned (.int .i64 (ruleZ r))∧Below w.heap.size w w':=by
 have HQ:Hid (∀ x w',ruleZ r=x→Below w.heap.size w w'→(fun (e:Ending) w'=>e=.returned (.int .i64 (ruleZ r))∧Below w.heap.size w w') (.returned (.int .i64 x)) w'):=Hd fun x w' h hb=>⟨by rw [h],hb⟩
 generalize (fun (e:Ending) w'=>e=.returned (.int .i64 (ruleZ r))∧Below w.heap.size w w')=Q at *;have HS:=Hd hs;obtain ⟨ah,ch,rfl,hch⟩:=Row.shape hr.H;obtain ⟨af,cf,rfl,hcf⟩:=hr.F.slice;obtain ⟨ab,cb,rfl,hcb⟩:=hr.B.slice;have HR:=Hd hr;have HT:=Hd hT;have HMX:=Hd hM;have HTOP:Hid (ruleTop r=(name r.nm&&(decide (1≤r.goal∧r.goal≤3)&&(checkB r.fnd&&(checkB r.by'&&!(decide (r.goal=3)&&decide (zT r.by' 0≠13))))))):=Hd rfl;have HR1:Hid (RK (w.alloc (.cells #[.string r.nm,.int .u8 (r.goal:Int),.slice ah r.holes.length ch,.slice af r.fnd.length cf,.slice ab r.by'.length cb] 41)) w.heap.size r.nm r.goal (.slice ah r.holes.length ch) (.slice af r.fnd.length cf) (.slice ab r.by'.length cb)):=Hd (heap_alloc_new _ _);have HB1:Hid (Below w.heap.size w (w.alloc (.cells #[.string r.nm,.int .u8 (r.goal:Int),.slice ah r.holes.length ch,.slice af r.fnd.length cf,.slice ab r.by'.length cb] 41))):=Hd ((bR _ _).alloc (nR _) _);have hhl:=hs.h.1;have hgl:=hs.g;clear hr hT hM hs;unfold ruleAgg;obtain ⟨e0,e1,e2,e3,e4⟩:=HR1.out.cells;go_enter Tryz.func31,Tryz.ntmps31;go_wp2_with fail;generalize w.alloc (.cells #[.string r.nm,.int .u8 (r.goal:Int),.slice ah r.holes.length ch,.slice af r.fnd.length cf,.slice ab r.by'.length cb] 41)=W1 at *;have C1:=Hd (kM r.nm W1 (HT.out.below HB1.out));go_wp2_with fail;refine C1.out.mono ?_;rintro e w2 ⟨rfl,hb2⟩;have HR2:=Hd (HR1.out.below hb2);have HB2:=Hd (zC HB1.out hb2);clear hb2 C1 HB1 HR1 e0 e1 e2 e3 e4;obtain ⟨e0,e1,e2,e3,e4⟩:=HR2.out.cells;cases hnm:name r.nm with
 | false =>
  have HX:=Hd (HQ.out 10 w2 (gS (by rw [HTOP.out,hnm];rfl)) HB2.out);clear hnm;go_wp2_with fail;exact HX.out
 | true =>
 have HTOP2:=HTOP.out;rw [hnm,Bool.true_and] at HTOP2;have HTOP:=Hd HTOP2;clear HTOP2 hnm;by_cases hg1:r.goal<1
 ·have g1:(r.goal:Int)<1:=by omega
  have HX:=Hd (HQ.out 10 w2 (gS (by rw [HTOP.out,decide_eq_false (by omega)];rfl)) HB2.out);go_wp2_with fail;exact HX.out
 by_cases hg3:3<r.goal
 ·have g1:¬ (r.goal:Int)<1:=by omega
  have g2:(3:Int)<(r.goal:Int):=by omega
  have HX:=Hd (HQ.out 10 w2 (gS (by rw [HTOP.out,decide_eq_false (by omega)];rfl)) HB2.out);go_wp2_with fail;exact HX.out
 have g1:¬ (r.goal:Int)<1:=by omega
 have g2:¬ (3:Int)<(r.goal:Int):=by omega
 have HTOP2:=HTOP.out;rw [decide_eq_true (show 1≤r.goal∧r.goal≤3 by omega),Bool.true_and] at HTOP2;have HTOP:=Hd HTOP2;have C2:=Hd (zFq r.fnd (by have:=HS.out.f.1;omega) HS.out.f.fine _ w2 (HT.out.below HB2.out) (HMX.out.below HB2.out) (HR.out.F.below HB2.out));clear HTOP2 hg1 hg3;go_wp2_with fail;refine C2.out.mono ?_;rintro e w3 ⟨rfl,hb3⟩;have HR3:=Hd (HR2.out.below hb3);have HB3:=Hd (zC HB2.out hb3);clear hb3 C2 HB2 HR2 e0 e1 e2 e3 e4;obtain ⟨e0,e1,e2,e3,e4⟩:=HR3.out.cells;cases hcf2:checkB r.fnd with
 | false =>
  have HX:=Hd (HQ.out 10 w3 (gS (by rw [HTOP.out,hcf2];rfl)) HB3.out);clear hcf2;simp only [Bool.false_eq_true,if_false];go_wp2_with fail;exact HX.out
 | true =>
 have HCF:=Hd hcf2;have HTOP2:=HTOP.out;rw [hcf2,Bool.true_and] at HTOP2;have HTOP:=Hd HTOP2;have C3:=Hd (zFq r.by' (by have:=HS.out.b.1;omega) HS.out.b.fine _ w3 (HT.out.below HB3.out) (HMX.out.below HB3.out) (HR.out.B.below HB3.out));clear HTOP2 hcf2;simp only [if_true];go_wp2_with fail;refine C3.out.mono ?_;rintro e w4 ⟨rfl,hb4⟩;have HR4:=Hd (HR3.out.below hb4);have HB4:=Hd (zC HB3.out hb4);clear hb4 C3 HB3 HR3 e0 e1 e2 e3 e4;obtain ⟨e0,e1,e2,e3,e4⟩:=HR4.out.cells;cases hcb2:checkB r.by' with
 | false =>
  have HX:=Hd (HQ.out 10 w4 (gS (by rw [HTOP.out,hcb2];rfl)) HB4.out);clear hcb2;simp only [Bool.false_eq_true,if_false];go_wp2_with fail;exact HX.out
 | true =>
 have HCB:=Hd hcb2;have HTOP2:=HTOP.out;rw [hcb2,Bool.true_and] at HTOP2;have HTOP:=Hd HTOP2;have hb0:=(xT (vT hcb2).1).1;clear HTOP2 hcb2;simp only [if_true];have hbr:=HR.out.B;obtain ⟨bb,bo,rfl,_,_,hblt,hbc⟩:=hbr.at HB4.out hb0;obtain ⟨f0,_,_⟩:=hbc 0 hb0;rw [Nat.zero_mul,Nat.add_zero] at f0;have hb0i:(0:Int)<(r.by'.length:Int):=by omega
 have HK0:Hid (zT r.by' 0=(r.by'[0]).1):=Hd (by unfold zT;rw [gE hb0]);clear hbc hbr;generalize (r.by'[0]).1=k0 at *;by_cases hg13:r.goal=3∧k0≠13
 ·have g3:((r.goal:Int) == 3)=true:=by rw [beq_iff_eq];omega
  have g4:((k0:Int) != 13)=true:=by rw [bne_iff_ne];omega
  have HX:=Hd (HQ.out 10 w4 (gS (by rw [HTOP.out,HK0.out,decide_eq_true hg13.1,decide_eq_true hg13.2];rfl)) HB4.out);clear hg13;go_wp2_with fail;exact HX.out
 have HT1:Hid (ruleTop r=true):=Hd (by
  rw [HTOP.out,HK0.out];by_cases h3:r.goal=3
  ·have h13:k0=13:=Decidable.not_not.1 fun h=>hg13 ⟨h3,h⟩
   rw [h13];simp
  ·rw [decide_eq_false h3];rfl)
 have HG13:Hid (((r.goal:Int) == 3)=false∨(((r.goal:Int) == 3)=true∧((k0:Int) != 13)=false)):=Hd (by
  by_cases h3:r.goal=3
  ·have h13:k0=13:=Decidable.not_not.1 fun h=>hg13 ⟨h3,h⟩
   right;exact ⟨by rw [beq_iff_eq];omega,by rw [bne_eq_false_iff_eq];omega⟩
  ·left;rw [bE];omega)
 clear hg13 HTOP HK0;rcases HG13.out with hg3 | ⟨hg3,hg4⟩
 ·have HOP:Hid True:=Hd trivial;by_cases hl16:16<r.holes.length
  ·have g5:(16:Int)<(r.holes.length:Int):=by omega
   have HX:=Hd (HQ.out 14 w4 (zCc HT1.out (Or.inl hl16)) HB4.out);go_wp2_with fail;exact HX.out
  have g5:¬ (16:Int)<(r.holes.length:Int):=by omega
  have HL16:Hid (r.holes.length≤16):=Hd (by omega);clear hl16;go_wp2_with fail;clear f0 e0 e1 e2 e3 e4;go_loopw [3,53] (fun cv iv wr=>rcOne r.holes w4 cv iv wr) (fun _ iv _=>r.holes.length-(intOf iv).toNat)
  case atStart=>exact ⟨0,0,rfl,rfl,Nat.zero_le _,rfl,bR _ _⟩
  case round =>
   obtain ⟨k,n,rfl,rfl,hk,hn,hb⟩:=hrel;have HB:=Hd hb;have HN:=Hd hn;have hnk:n≤k:=by
    have:=zSy (r.holes.take k);rw [List.length_take] at this;omega
   clear hb hn;have hwk:IntKind.i64.wrap ((k:Int)+1)=(k:Int)+1:=by rw [IntKind.wrap_i64];have:=HL16.out;omega
   have hwn:IntKind.i64.wrap ((n:Int)+1)=(n:Int)+1:=by rw [IntKind.wrap_i64];have:=HL16.out;omega
   by_cases hlt:k<r.holes.length
   ·have hkl:(k:Int)<r.holes.length:=by omega
    have hk0:(0:Int)≤(k:Int):=by omega
    have hkc:(k:Int)<(ch:Int):=by omega
    obtain ⟨b1,o1,rfl,_,_,_,hc1⟩:=HR.out.H.at (zC HB4.out HB.out) (show 0<r.holes.length by omega);obtain ⟨d0,d1⟩:=hc1 k hlt;have HSV:=Hd (zJi hlt);have HA:=Hd (HB.out.alloc HB.out.size (.cells #[.string (r.holes[k]).1,.int .u8 ((r.holes[k]).2:Int)] 50));have hsv:isSev (r.holes[k]).2=((r.holes[k]).2 == 6 || (r.holes[k]).2 == 7):=rfl;have HSD:=Hd hsv;have HMS:Hid (r.holes.length-(k+1)<r.holes.length-k):=Hd (by omega);have HNT:Hid (isSev (r.holes[k]).2=true→n+1=sevN (r.holes.take (k+1))):=Hd fun h=>by rw [HSV.out,iP h,HN.out]
    have HNF:Hid (isSev (r.holes[k]).2=false→n=sevN (r.holes.take (k+1))):=Hd fun h=>by rw [HSV.out,iN (by rw [h];simp),HN.out];rfl
    clear hc1 hsv HSV;generalize (r.holes[k]).1=hn1 at *;generalize (r.holes[k]).2=hk1 at *;by_cases h6:hk1=6
    ·have q6:((hk1:Int) == 6)=true:=by rw [beq_iff_eq];omega
     have HX:=Hd (HNT.out (by rw [HSD.out,h6];rfl));clear h6;go_wp2_with fail
     case roundEnd=>exact ⟨⟨k+1,n+1,by push_cast;rfl,by push_cast;rfl,by omega,HX.out,HA.out⟩,HMS.out⟩
    ·have q6:((hk1:Int) == 6)=false:=by rw [bE];omega
     by_cases h7:hk1=7
     ·have q7:((hk1:Int) == 7)=true:=by rw [beq_iff_eq];omega
      have HX:=Hd (HNT.out (by rw [HSD.out,h7];rfl));clear h6 h7;go_wp2_with fail
      case roundEnd=>exact ⟨⟨k+1,n+1,by push_cast;rfl,by push_cast;rfl,by omega,HX.out,HA.out⟩,HMS.out⟩
     ·have q7:((hk1:Int) == 7)=false:=by rw [bE];omega
      have HX:=Hd (HNF.out (by rw [HSD.out];simp [h6,h7]));clear h6 h7;go_wp2_with fail
      case roundEnd=>exact ⟨⟨k+1,n,by push_cast;rfl,rfl,by omega,HX.out,HA.out⟩,HMS.out⟩
   ·obtain rfl:k=r.holes.length:=by omega
    have hkl:¬ (r.holes.length:Int)<r.holes.length:=by omega
    have hn2:n=sevN r.holes:=by have:=HN.out;rw [zMu] at this;exact this
    by_cases hs2:2<n
    ·have g6:(2:Int)<(n:Int):=by omega
     have HX:=Hd (HQ.out 14 wr (zCc HT1.out (Or.inr (by omega))) (zC HB4.out HB.out));clear hn2 hs2;go_wp2_with fail;exact HX.out
    have g6:¬ (2:Int)<(n:Int):=by omega
    have HS2:Hid (sevN r.holes≤2):=Hd (by omega);have HR5:=Hd (HR4.out.below HB.out);have HB5:=Hd (zC HB4.out HB.out);obtain ⟨e0,e1,e2,e3,e4⟩:=HR5.out.cells;have HMM:=Hd (MapIs.made wr);have HBM:Hid (Below wr.heap.size wr (wr.alloc (.map #[] 0))):=Hd ((bR _ _).alloc (nR _) _);clear hs2 hn2 HN;have hmm:(Instr.makeMap 101 none).run Tryz.prog wr=.ok (.map (some wr.heap.size)) (wr.alloc (.map #[] 0)):=run_makeMap _ _;have hz2:(wr.alloc (.map #[] 0)).cell? ⟨w.heap.size,2,none⟩=some (.slice ah r.holes.length ch):=by
     exact (HR5.out.below HBM.out).cells.2.2.1
    go_wp2_with fail;clear e0 e1 e2 e3 e4 hz2 hmm;generalize wr.alloc (.map #[] 0)=W6 at *;obtain ⟨w9,rfl⟩:∃ w9,w9=wr:=⟨_,rfl⟩;generalize hbm:w9.heap.size=bm at *;have HBE:=Hd hbm;clear hbm;go_loopw [74] (fun iv wr=>rcTwo r bm w9 iv wr) (fun iv _=>r.holes.length-(intOf iv).toNat)
    case atStart=>exact ⟨0,rfl,Nat.zero_le _,fun i hi=>by omega,HMM.out,HBM.out⟩
    case round =>
     obtain ⟨k,rfl,hk,hok,hm,hb⟩:=hrel;have HB7:Hid (Below w.heap.size w wr):=Hd (zC HB5.out (HBE.out ▸ hb));have HR7:Hid (RK wr w.heap.size r.nm r.goal (.slice ah r.holes.length ch) (.slice af r.fnd.length cf) (.slice (some ⟨bb,bo,none⟩) r.by'.length cb)):=Hd (HR5.out.below (HBE.out ▸ hb));have HM:=Hd hm;have HB:=Hd hb;have HOK:=Hd hok;clear hm hb hok HMM HBM;have hwk:IntKind.i64.wrap ((k:Int)+1)=(k:Int)+1:=by rw [IntKind.wrap_i64];have:=HL16.out;omega
     by_cases hlt:k<r.holes.length
     ·have hkl:(k:Int)<r.holes.length:=by omega
      have hk0:(0:Int)≤(k:Int):=by omega
      have hkc:(k:Int)<(ch:Int):=by omega
      obtain ⟨b1,o1,rfl,_,_,_,hc1⟩:=HR.out.H.at HB7.out (show 0<r.holes.length by omega);obtain ⟨d0,d1⟩:=hc1 k hlt;have HHB:=Hd (zMs hlt);have HTS:=Hd (jO hlt);have hsz:=(HS.out.h.2 _ (gM hlt)).1;obtain ⟨h,hh⟩:∃ h,h=r.holes[k]:=⟨_,rfl⟩;rw [← hh] at d0 d1 HHB HTS hsz;obtain ⟨hn1,hk1⟩:=h;simp only [] at d0 d1 HHB hsz;have HMS:Hid (r.holes.length-(k+1)<r.holes.length-k):=Hd (by omega);have HERR:Hid (∀ w',holeB r k=false→Below w.heap.size w w'→Q (.returned (.int .i64 11)) w'):=Hd fun w' h hb=>HQ.out 11 w' (zMt HT1.out HL16.out HS2.out hlt h) hb
      have HNEXT:Hid (∀ w',holeB r k=true→MapIs w' bm (k+1) (seenM (r.holes.take (k+1)))→Below bm w9 w'→rcTwo r bm w9 (.int .i64 ((k:Int)+1)) w'):=Hd fun w' h hm hb=>⟨k+1,by push_cast;rfl,by omega,fun i hi=>by
       by_cases e:i=k
       ·subst e;exact h
       ·exact HOK.out i (by omega),hm,hb⟩
      have hA:Below wr.heap.size wr (wr.alloc (.cells #[.string hn1,.int .u8 (hk1:Int)] 50)):=(bR _ _).alloc (nR _) _;have hgh:bm<wr.heap.size:=HM.out.lt;have HM2:=Hd (HM.out.below hA hgh);have HB2:Hid (Below bm w9 (wr.alloc (.cells #[.string hn1,.int .u8 (hk1:Int)] 50))):=Hd (HB.out.alloc (by omega) _);have HR8:=Hd (HR7.out.below hA);have HK2:Hid ((wr.alloc (.cells #[.string hn1,.int .u8 (hk1:Int)] 50)).heap[wr.heap.size]?=some (.cells #[.string hn1,.int .u8 (hk1:Int)] 50 (0,0))):=Hd (heap_alloc_new _ _);have HBS:Hid (bm≤(wr.alloc (.cells #[.string hn1,.int .u8 (hk1:Int)] 50)).heap.size):=Hd (by simp;omega);have HGB:Hid (wr.heap.size≠bm):=Hd (by omega);have hsz2:hn1.size≤maxLen:=by unfold maxLen;omega
      clear hc1 hA hgh hsz;have hk16:k≤16:=by have:=HL16.out;omega
      go_upto_region 22 with (fail);clear d0 d1;generalize wr.alloc (.cells #[.string hn1,.int .u8 (hk1:Int)] 50)=W2 at *;generalize wr.heap.size=gh at *;have g0:W2.cell? ⟨gh,0,none⟩=some (.string hn1):=by simp [World.cell?,HK2.out]
      cases hd:dupB r k hn1 with
      | true =>
       have hl1:(Instr.lookup 101 (.map (some bm)) (.string hn1) false).run Tryz.prog W2=.ok (.int .i64 1) W2:=by
        have:=HM2.out.get hn1 hsz2;rw [this];unfold seenM;unfold dupB at hd;rw [iP hd];rfl
       obtain ⟨w3,hup,hm3,hg3⟩:=HM2.out.put (by unfold maxLen;omega) hn1 hsz2 2 rfl;have HM3:=Hd hm3;have HB3b:Hid (Below bm w9 w3):=Hd (HB2.out.grown hg3 HBS.out (fun k hk=>by cases hk;exact nR _));have HK3:Hid (w3.heap[gh]?=some (.cells #[.string hn1,.int .u8 (hk1:Int)] 50 (0,0))):=Hd (by
        rw [hg3.block gh (zG HK2.out) (fun e=>HGB.out (Option.some.inj e))];exact HK2.out)
       have HHF:Hid (holeB r k=false):=Hd (by rw [HHB.out,hd];rfl);clear hm3 hg3 hd;go_upto_region 23 with (at_mapUpdate;refine yP rfl _ _ _ _ hup rfl rfl rfl rfl ?_);clear hup hl1 g0;have g0:w3.cell? ⟨gh,0,none⟩=some (.string hn1):=by simp [World.cell?,HK3.out]
       have HB3:Hid (Below w.heap.size w w3):=Hd (zC HB5.out (HBE.out ▸ HB3b.out));have CN:=Hd (kM hn1 w3 (HT.out.below HB3.out));go_wp2_with fail;refine CN.out.mono ?_;rintro e w5 ⟨rfl,hb5⟩;have HX:=Hd (HERR.out w5 HHF.out (zC HB3.out hb5));have hm5:=HM3.out.below hb5 HM3.out.lt;have hl2:(Instr.lookup 101 (.map (some bm)) (.string hn1) false).run Tryz.prog w5=.ok (.int .i64 2) w5:=by
        have:=hm5.get hn1 hsz2
        simpa using this
       have g0:w5.cell? ⟨gh,0,none⟩=some (.string hn1):=by simp [World.cell?,keeps hb5 HK3.out]
       clear CN hb5 hm5;cases name hn1 with
       | false =>
        go_wp2_with fail;exact HX.out
       | true =>
        go_wp2_with fail;exact HX.out
      | false =>
       have hl1:(Instr.lookup 101 (.map (some bm)) (.string hn1) false).run Tryz.prog W2=.ok (.int .i64 0) W2:=by
        have:=HM2.out.get hn1 hsz2;rw [this];unfold seenM;unfold dupB at hd;rw [iN (by rw [hd];simp)];rfl
       obtain ⟨w3,hup,hm3,hg3⟩:=HM2.out.put (by unfold maxLen;omega) hn1 hsz2 1 rfl;rw [zJh _ (hn1,hk1),← HTS.out] at hm3;have HM3:=Hd hm3;have HB3b:Hid (Below bm w9 w3):=Hd (HB2.out.grown hg3 HBS.out (fun k hk=>by cases hk;exact nR _));have HK3:Hid (w3.heap[gh]?=some (.cells #[.string hn1,.int .u8 (hk1:Int)] 50 (0,0))):=Hd (by
        rw [hg3.block gh (zG HK2.out) (fun e=>HGB.out (Option.some.inj e))];exact HK2.out)
       have hhb:=HHB.out;rw [hd,Bool.not_false,Bool.true_and] at hhb;have HHB:=Hd hhb;clear hm3 hg3 hd hhb;go_upto_region 23 with (at_mapUpdate;refine yP rfl _ _ _ _ hup rfl rfl rfl rfl ?_);clear hup hl1 g0;have g0:w3.cell? ⟨gh,0,none⟩=some (.string hn1):=by simp [World.cell?,HK3.out]
       have HB3:Hid (Below w.heap.size w w3):=Hd (zC HB5.out (HBE.out ▸ HB3b.out));have CN:=Hd (kM hn1 w3 (HT.out.below HB3.out));go_wp2_with fail;refine CN.out.mono ?_;rintro e w5 ⟨rfl,hb5⟩;have HB5c:Hid (Below bm w9 w5):=Hd (HB3b.out.trans (hb5.mono (by have:=HB3b.out.size;have:=HBE.out;omega)));have HM5:=Hd (HM3.out.below hb5 HM3.out.lt);have hl2:(Instr.lookup 101 (.map (some bm)) (.string hn1) false).run Tryz.prog w5=.ok (.int .i64 1) w5:=by
        have:=HM5.out.get hn1 hsz2;rw [this,HTS.out];unfold seenM;rw [iP (by simp)];rfl
       have HK5:Hid (w5.heap[gh]?=some (.cells #[.string hn1,.int .u8 (hk1:Int)] 50 (0,0))):=Hd (keeps hb5 HK3.out);have g0:w5.cell? ⟨gh,0,none⟩=some (.string hn1):=by simp [World.cell?,HK5.out]
       have g1:w5.cell? ⟨gh,1,none⟩=some (.int .u8 (hk1:Int)):=by simp [World.cell?,HK5.out]
       have HB6:Hid (Below w.heap.size w w5):=Hd (zC HB3.out hb5);clear CN hb5;cases hnm:name hn1 with
       | false =>
        have HX:=Hd (HERR.out w5 (by rw [HHB.out,hnm];rfl) HB6.out);clear hnm;go_wp2_with fail;exact HX.out
       | true =>
       have hhb:=HHB.out;rw [hnm,Bool.true_and] at hhb;have HHB:=Hd hhb;clear hnm hhb;by_cases hk1l:hk1<1
       ·have q1:(hk1:Int)<1:=by omega
        have HX:=Hd (HERR.out w5 (by rw [HHB.out,decide_eq_false (by omega)];rfl) HB6.out);clear hk1l;go_wp2_with fail;exact HX.out
       by_cases hk7:7<hk1
       ·have q1:¬ (hk1:Int)<1:=by omega
        have q2:(7:Int)<(hk1:Int):=by omega
        have HX:=Hd (HERR.out w5 (by rw [HHB.out,decide_eq_false (by omega)];rfl) HB6.out);clear hk1l hk7;go_wp2_with fail;exact HX.out
       have q1:¬ (hk1:Int)<1:=by omega
       have q2:¬ (7:Int)<(hk1:Int):=by omega
       have hhb:=HHB.out;rw [decide_eq_true (show 1≤hk1∧hk1≤7 by omega),Bool.true_and] at hhb;have HHB:=Hd hhb;clear hhb hk1l hk7;have HR9:Hid (RK w5 w.heap.size r.nm r.goal (.slice (some ⟨b1,o1,none⟩) r.holes.length ch) (.slice af r.fnd.length cf) (.slice (some ⟨bb,bo,none⟩) r.by'.length cb)):=Hd (HR5.out.below (HBE.out ▸ HB5c.out));obtain ⟨e0,e1,e2,e3,e4⟩:=HR9.out.cells;have CP1:=Hd (gN r.fnd (by have:=HS.out.f.1;omega) (fun p hp=>(HS.out.f.2 p hp).1) (zCz r.fnd (vT HCF.out).1 (by have:=HS.out.f.1;omega)) _ (hn1,hk1) w5 (HR.out.F.below HB6.out));go_wp2_with fail;refine CP1.out.mono ?_;intro e w6 h6;unfold yT at h6;obtain ⟨hb6,he6⟩:=h6;have HB6b:Hid (Below bm w9 w6):=Hd (HB5c.out.trans (hb6.mono (by have:=HB5c.out.size;have:=HBE.out;omega)));have HB7:Hid (Below w.heap.size w w6):=Hd (zC HB6.out hb6);have HM6:=Hd (HM5.out.below hb6 HM5.out.lt);have HK6:Hid (w6.heap[gh]?=some (.cells #[.string hn1,.int .u8 (hk1:Int)] 50 (0,0))):=Hd (keeps hb6 HK5.out);have HR10:=Hd (HR9.out.below hb6);clear hb6 CP1 g0 g1 e0 e1 e2 e3 e4 hl2 HK5 HM5 HB5c HB6 HM3 HK3 HB3b HB3 HM2 HK2 HB2;obtain ⟨e0,e1,e2,e3,e4⟩:=HR10.out.cells;have g0:w6.cell? ⟨gh,0,none⟩=some (.string hn1):=by simp [World.cell?,HK6.out]
       have g1:w6.cell? ⟨gh,1,none⟩=some (.int .u8 (hk1:Int)):=by simp [World.cell?,HK6.out]
       have CP2:=Hd (gN r.by' (by have:=HS.out.b.1;omega) (fun p hp=>(HS.out.b.2 p hp).1) (zCz r.by' (vT HCB.out).1 (by have:=HS.out.b.1;omega)) _ (hn1,hk1) w6 (HR.out.B.below HB7.out));rw [← hh] at *;generalize yK r.fnd (hn1,hk1)=z1 at *;generalize yK r.by' (hn1,hk1)=z2 at *;by_cases hz1:0≤z1
       ·rw [iP hz1] at he6;subst he6;go_wp2_with fail;refine CP2.out.mono ?_;intro e w7 h7;unfold yT at h7;obtain ⟨hb7,he7⟩:=h7;have HB8:Hid (Below bm w9 w7):=Hd (HB6b.out.trans (hb7.mono (by have:=HB6b.out.size;have:=HBE.out;omega)));have HB9:Hid (Below w.heap.size w w7):=Hd (zC HB7.out hb7);have HM7:=Hd (HM6.out.below hb7 HM6.out.lt);clear hb7 CP2 g0 g1 e0 e1 e2 e3 e4;by_cases hz0:z1=0
        ·subst hz0;have HX:=Hd (HERR.out w7 (by rw [HHB.out];rfl) HB9.out);by_cases hz2:0≤z2
         ·rw [iP hz2] at he7;subst he7;go_wp2_with fail;exact HX.out
         ·rw [iN hz2] at he7;subst he7;go_wp2_with fail;exact HX.out
        ·have y1:(z1 == 0)=false:=by rw [bE];exact hz0
         by_cases hz2:0≤z2
         ·rw [iP hz2] at he7;subst he7;have HX:=Hd (HNEXT.out w7 (by rw [HHB.out,decide_eq_true (show 1≤z1 by omega),decide_eq_true hz2];rfl) HM7.out HB8.out);clear hz0 hz1 hz2;go_wp2_with fail
          case roundEnd=>exact ⟨HX.out,HMS.out⟩
         ·rw [iN hz2] at he7;subst he7;have HX:=Hd (HERR.out w7 (by rw [HHB.out,decide_eq_false hz2,Bool.and_false]) HB9.out);clear hz0 hz1 hz2;go_wp2_with fail;exact HX.out
       ·rw [iN hz1] at he6;subst he6;have HX:=Hd (fun w' hb=>HERR.out w' (by rw [HHB.out,decide_eq_false (show ¬ 1≤z1 by omega)];rfl) hb);clear hz1;go_wp2_with fail;refine CP2.out.mono ?_;intro e w7 h7;unfold yT at h7;obtain ⟨hb7,he7⟩:=h7;have HX:=Hd (HX.out w7 (zC HB7.out hb7));clear hb7 CP2 g0 g1 e0 e1 e2 e3 e4;by_cases hz2:0≤z2
        ·rw [iP hz2] at he7;subst he7;go_wp2_with fail;exact HX.out
        ·rw [iN hz2] at he7;subst he7;go_wp2_with fail;exact HX.out
     ·obtain rfl:k=r.holes.length:=by omega
      have hkl:¬ (r.holes.length:Int)<r.holes.length:=by omega
      have HX:=Hd (HQ.out 0 wr (zSx HT1.out HL16.out HS2.out HOK.out) HB7.out);go_wp2_with fail;exact HX.out
 ·have HOP:Hid True:=Hd trivial;by_cases hl16:16<r.holes.length
  ·have g5:(16:Int)<(r.holes.length:Int):=by omega
   have HX:=Hd (HQ.out 14 w4 (zCc HT1.out (Or.inl hl16)) HB4.out);go_wp2_with fail;exact HX.out
  have g5:¬ (16:Int)<(r.holes.length:Int):=by omega
  have HL16:Hid (r.holes.length≤16):=Hd (by omega);clear hl16;go_wp2_with fail;clear f0 e0 e1 e2 e3 e4;go_loopw [3,53] (fun cv iv wr=>rcOne r.holes w4 cv iv wr) (fun _ iv _=>r.holes.length-(intOf iv).toNat)
  case atStart=>exact ⟨0,0,rfl,rfl,Nat.zero_le _,rfl,bR _ _⟩
  case round =>
   obtain ⟨k,n,rfl,rfl,hk,hn,hb⟩:=hrel;have HB:=Hd hb;have HN:=Hd hn;have hnk:n≤k:=by
    have:=zSy (r.holes.take k);rw [List.length_take] at this;omega
   clear hb hn;have hwk:IntKind.i64.wrap ((k:Int)+1)=(k:Int)+1:=by rw [IntKind.wrap_i64];have:=HL16.out;omega
   have hwn:IntKind.i64.wrap ((n:Int)+1)=(n:Int)+1:=by rw [IntKind.wrap_i64];have:=HL16.out;omega
   by_cases hlt:k<r.holes.length
   ·have hkl:(k:Int)<r.holes.length:=by omega
    have hk0:(0:Int)≤(k:Int):=by omega
    have hkc:(k:Int)<(ch:Int):=by omega
    obtain ⟨b1,o1,rfl,_,_,_,hc1⟩:=HR.out.H.at (zC HB4.out HB.out) (show 0<r.holes.length by omega);obtain ⟨d0,d1⟩:=hc1 k hlt;have HSV:=Hd (zJi hlt);have HA:=Hd (HB.out.alloc HB.out.size (.cells #[.string (r.holes[k]).1,.int .u8 ((r.holes[k]).2:Int)] 50));have hsv:isSev (r.holes[k]).2=((r.holes[k]).2 == 6 || (r.holes[k]).2 == 7):=rfl;have HSD:=Hd hsv;have HMS:Hid (r.holes.length-(k+1)<r.holes.length-k):=Hd (by omega);have HNT:Hid (isSev (r.holes[k]).2=true→n+1=sevN (r.holes.take (k+1))):=Hd fun h=>by rw [HSV.out,iP h,HN.out]
    have HNF:Hid (isSev (r.holes[k]).2=false→n=sevN (r.holes.take (k+1))):=Hd fun h=>by rw [HSV.out,iN (by rw [h];simp),HN.out];rfl
    clear hc1 hsv HSV;generalize (r.holes[k]).1=hn1 at *;generalize (r.holes[k]).2=hk1 at *;by_cases h6:hk1=6
    ·have q6:((hk1:Int) == 6)=true:=by rw [beq_iff_eq];omega
     have HX:=Hd (HNT.out (by rw [HSD.out,h6];rfl));clear h6;go_wp2_with fail
     case roundEnd=>exact ⟨⟨k+1,n+1,by push_cast;rfl,by push_cast;rfl,by omega,HX.out,HA.out⟩,HMS.out⟩
    ·have q6:((hk1:Int) == 6)=false:=by rw [bE];omega
     by_cases h7:hk1=7
     ·have q7:((hk1:Int) == 7)=true:=by rw [beq_iff_eq];omega
      have HX:=Hd (HNT.out (by rw [HSD.out,h7];rfl));clear h6 h7;go_wp2_with fail
      case roundEnd=>exact ⟨⟨k+1,n+1,by push_cast;rfl,by push_cast;rfl,by omega,HX.out,HA.out⟩,HMS.out⟩
     ·have q7:((hk1:Int) == 7)=false:=by rw [bE];omega
      have HX:=Hd (HNF.out (by rw [HSD.out];simp [h6,h7]));clear h6 h7;go_wp2_with fail
      case roundEnd=>exact ⟨⟨k+1,n,by push_cast;rfl,rfl,by omega,HX.out,HA.out⟩,HMS.out⟩
   ·obtain rfl:k=r.holes.length:=by omega
    have hkl:¬ (r.holes.length:Int)<r.holes.length:=by omega
    have hn2:n=sevN r.holes:=by have:=HN.out;rw [zMu] at this;exact this
    by_cases hs2:2<n
    ·have g6:(2:Int)<(n:Int):=by omega
     have HX:=Hd (HQ.out 14 wr (zCc HT1.out (Or.inr (by omega))) (zC HB4.out HB.out));clear hn2 hs2;go_wp2_with fail;exact HX.out
    have g6:¬ (2:Int)<(n:Int):=by omega
    have HS2:Hid (sevN r.holes≤2):=Hd (by omega);have HR5:=Hd (HR4.out.below HB.out);have HB5:=Hd (zC HB4.out HB.out);obtain ⟨e0,e1,e2,e3,e4⟩:=HR5.out.cells;have HMM:=Hd (MapIs.made wr);have HBM:Hid (Below wr.heap.size wr (wr.alloc (.map #[] 0))):=Hd ((bR _ _).alloc (nR _) _);clear hs2 hn2 HN;have hmm:(Instr.makeMap 101 none).run Tryz.prog wr=.ok (.map (some wr.heap.size)) (wr.alloc (.map #[] 0)):=run_makeMap _ _;have hz2:(wr.alloc (.map #[] 0)).cell? ⟨w.heap.size,2,none⟩=some (.slice ah r.holes.length ch):=by
     exact (HR5.out.below HBM.out).cells.2.2.1
    go_wp2_with fail;clear e0 e1 e2 e3 e4 hz2 hmm;generalize wr.alloc (.map #[] 0)=W6 at *;obtain ⟨w9,rfl⟩:∃ w9,w9=wr:=⟨_,rfl⟩;generalize hbm:w9.heap.size=bm at *;have HBE:=Hd hbm;clear hbm;go_loopw [74] (fun iv wr=>rcTwo r bm w9 iv wr) (fun iv _=>r.holes.length-(intOf iv).toNat)
    case atStart=>exact ⟨0,rfl,Nat.zero_le _,fun i hi=>by omega,HMM.out,HBM.out⟩
    case round =>
     obtain ⟨k,rfl,hk,hok,hm,hb⟩:=hrel;have HB7:Hid (Below w.heap.size w wr):=Hd (zC HB5.out (HBE.out ▸ hb));have HR7:Hid (RK wr w.heap.size r.nm r.goal (.slice ah r.holes.length ch) (.slice af r.fnd.length cf) (.slice (some ⟨bb,bo,none⟩) r.by'.length cb)):=Hd (HR5.out.below (HBE.out ▸ hb));have HM:=Hd hm;have HB:=Hd hb;have HOK:=Hd hok;clear hm hb hok HMM HBM;have hwk:IntKind.i64.wrap ((k:Int)+1)=(k:Int)+1:=by rw [IntKind.wrap_i64];have:=HL16.out;omega
     by_cases hlt:k<r.holes.length
     ·have hkl:(k:Int)<r.holes.length:=by omega
      have hk0:(0:Int)≤(k:Int):=by omega
      have hkc:(k:Int)<(ch:Int):=by omega
      obtain ⟨b1,o1,rfl,_,_,_,hc1⟩:=HR.out.H.at HB7.out (show 0<r.holes.length by omega);obtain ⟨d0,d1⟩:=hc1 k hlt;have HHB:=Hd (zMs hlt);have HTS:=Hd (jO hlt);have hsz:=(HS.out.h.2 _ (gM hlt)).1;obtain ⟨h,hh⟩:∃ h,h=r.holes[k]:=⟨_,rfl⟩;rw [← hh] at d0 d1 HHB HTS hsz;obtain ⟨hn1,hk1⟩:=h;simp only [] at d0 d1 HHB hsz;have HMS:Hid (r.holes.length-(k+1)<r.holes.length-k):=Hd (by omega);have HERR:Hid (∀ w',holeB r k=false→Below w.heap.size w w'→Q (.returned (.int .i64 11)) w'):=Hd fun w' h hb=>HQ.out 11 w' (zMt HT1.out HL16.out HS2.out hlt h) hb
      have HNEXT:Hid (∀ w',holeB r k=true→MapIs w' bm (k+1) (seenM (r.holes.take (k+1)))→Below bm w9 w'→rcTwo r bm w9 (.int .i64 ((k:Int)+1)) w'):=Hd fun w' h hm hb=>⟨k+1,by push_cast;rfl,by omega,fun i hi=>by
       by_cases e:i=k
       ·subst e;exact h
       ·exact HOK.out i (by omega),hm,hb⟩
      have hA:Below wr.heap.size wr (wr.alloc (.cells #[.string hn1,.int .u8 (hk1:Int)] 50)):=(bR _ _).alloc (nR _) _;have hgh:bm<wr.heap.size:=HM.out.lt;have HM2:=Hd (HM.out.below hA hgh);have HB2:Hid (Below bm w9 (wr.alloc (.cells #[.string hn1,.int .u8 (hk1:Int)] 50))):=Hd (HB.out.alloc (by omega) _);have HR8:=Hd (HR7.out.below hA);have HK2:Hid ((wr.alloc (.cells #[.string hn1,.int .u8 (hk1:Int)] 50)).heap[wr.heap.size]?=some (.cells #[.string hn1,.int .u8 (hk1:Int)] 50 (0,0))):=Hd (heap_alloc_new _ _);have HBS:Hid (bm≤(wr.alloc (.cells #[.string hn1,.int .u8 (hk1:Int)] 50)).heap.size):=Hd (by simp;omega);have HGB:Hid (wr.heap.size≠bm):=Hd (by omega);have hsz2:hn1.size≤maxLen:=by unfold maxLen;omega
      clear hc1 hA hgh hsz;have hk16:k≤16:=by have:=HL16.out;omega
      go_upto_region 22 with (fail);clear d0 d1;generalize wr.alloc (.cells #[.string hn1,.int .u8 (hk1:Int)] 50)=W2 at *;generalize wr.heap.size=gh at *;have g0:W2.cell? ⟨gh,0,none⟩=some (.string hn1):=by simp [World.cell?,HK2.out]
      cases hd:dupB r k hn1 with
      | true =>
       have hl1:(Instr.lookup 101 (.map (some bm)) (.string hn1) false).run Tryz.prog W2=.ok (.int .i64 1) W2:=by
        have:=HM2.out.get hn1 hsz2;rw [this];unfold seenM;unfold dupB at hd;rw [iP hd];rfl
       obtain ⟨w3,hup,hm3,hg3⟩:=HM2.out.put (by unfold maxLen;omega) hn1 hsz2 2 rfl;have HM3:=Hd hm3;have HB3b:Hid (Below bm w9 w3):=Hd (HB2.out.grown hg3 HBS.out (fun k hk=>by cases hk;exact nR _));have HK3:Hid (w3.heap[gh]?=some (.cells #[.string hn1,.int .u8 (hk1:Int)] 50 (0,0))):=Hd (by
        rw [hg3.block gh (zG HK2.out) (fun e=>HGB.out (Option.some.inj e))];exact HK2.out)
       have HHF:Hid (holeB r k=false):=Hd (by rw [HHB.out,hd];rfl);clear hm3 hg3 hd;go_upto_region 23 with (at_mapUpdate;refine yP rfl _ _ _ _ hup rfl rfl rfl rfl ?_);clear hup hl1 g0;have g0:w3.cell? ⟨gh,0,none⟩=some (.string hn1):=by simp [World.cell?,HK3.out]
       have HB3:Hid (Below w.heap.size w w3):=Hd (zC HB5.out (HBE.out ▸ HB3b.out));have CN:=Hd (kM hn1 w3 (HT.out.below HB3.out));go_wp2_with fail;refine CN.out.mono ?_;rintro e w5 ⟨rfl,hb5⟩;have HX:=Hd (HERR.out w5 HHF.out (zC HB3.out hb5));have hm5:=HM3.out.below hb5 HM3.out.lt;have hl2:(Instr.lookup 101 (.map (some bm)) (.string hn1) false).run Tryz.prog w5=.ok (.int .i64 2) w5:=by
        have:=hm5.get hn1 hsz2
        simpa using this
       have g0:w5.cell? ⟨gh,0,none⟩=some (.string hn1):=by simp [World.cell?,keeps hb5 HK3.out]
       clear CN hb5 hm5;cases name hn1 with
       | false =>
        go_wp2_with fail;exact HX.out
       | true =>
        go_wp2_with fail;exact HX.out
      | false =>
       have hl1:(Instr.lookup 101 (.map (some bm)) (.string hn1) false).run Tryz.prog W2=.ok (.int .i64 0) W2:=by
        have:=HM2.out.get hn1 hsz2;rw [this];unfold seenM;unfold dupB at hd;rw [iN (by rw [hd];simp)];rfl
       obtain ⟨w3,hup,hm3,hg3⟩:=HM2.out.put (by unfold maxLen;omega) hn1 hsz2 1 rfl;rw [zJh _ (hn1,hk1),← HTS.out] at hm3;have HM3:=Hd hm3;have HB3b:Hid (Below bm w9 w3):=Hd (HB2.out.grown hg3 HBS.out (fun k hk=>by cases hk;exact nR _));have HK3:Hid (w3.heap[gh]?=some (.cells #[.string hn1,.int .u8 (hk1:Int)] 50 (0,0))):=Hd (by
        rw [hg3.block gh (zG HK2.out) (fun e=>HGB.out (Option.some.inj e))];exact HK2.out)
       have hhb:=HHB.out;rw [hd,Bool.not_false,Bool.true_and] at hhb;have HHB:=Hd hhb;clear hm3 hg3 hd hhb;go_upto_region 23 with (at_mapUpdate;refine yP rfl _ _ _ _ hup rfl rfl rfl rfl ?_);clear hup hl1 g0;have g0:w3.cell? ⟨gh,0,none⟩=some (.string hn1):=by simp [World.cell?,HK3.out]
       have HB3:Hid (Below w.heap.size w w3):=Hd (zC HB5.out (HBE.out ▸ HB3b.out));have CN:=Hd (kM hn1 w3 (HT.out.below HB3.out));go_wp2_with fail;refine CN.out.mono ?_;rintro e w5 ⟨rfl,hb5⟩;have HB5c:Hid (Below bm w9 w5):=Hd (HB3b.out.trans (hb5.mono (by have:=HB3b.out.size;have:=HBE.out;omega)));have HM5:=Hd (HM3.out.below hb5 HM3.out.lt);have hl2:(Instr.lookup 101 (.map (some bm)) (.string hn1) false).run Tryz.prog w5=.ok (.int .i64 1) w5:=by
        have:=HM5.out.get hn1 hsz2;rw [this,HTS.out];unfold seenM;rw [iP (by simp)];rfl
       have HK5:Hid (w5.heap[gh]?=some (.cells #[.string hn1,.int .u8 (hk1:Int)] 50 (0,0))):=Hd (keeps hb5 HK3.out);have g0:w5.cell? ⟨gh,0,none⟩=some (.string hn1):=by simp [World.cell?,HK5.out]
       have g1:w5.cell? ⟨gh,1,none⟩=some (.int .u8 (hk1:Int)):=by simp [World.cell?,HK5.out]
       have HB6:Hid (Below w.heap.size w w5):=Hd (zC HB3.out hb5);clear CN hb5;cases hnm:name hn1 with
       | false =>
        have HX:=Hd (HERR.out w5 (by rw [HHB.out,hnm];rfl) HB6.out);clear hnm;go_wp2_with fail;exact HX.out
       | true =>
       have hhb:=HHB.out;rw [hnm,Bool.true_and] at hhb;have HHB:=Hd hhb;clear hnm hhb;by_cases hk1l:hk1<1
       ·have q1:(hk1:Int)<1:=by omega
        have HX:=Hd (HERR.out w5 (by rw [HHB.out,decide_eq_false (by omega)];rfl) HB6.out);clear hk1l;go_wp2_with fail;exact HX.out
       by_cases hk7:7<hk1
       ·have q1:¬ (hk1:Int)<1:=by omega
        have q2:(7:Int)<(hk1:Int):=by omega
        have HX:=Hd (HERR.out w5 (by rw [HHB.out,decide_eq_false (by omega)];rfl) HB6.out);clear hk1l hk7;go_wp2_with fail;exact HX.out
       have q1:¬ (hk1:Int)<1:=by omega
       have q2:¬ (7:Int)<(hk1:Int):=by omega
       have hhb:=HHB.out;rw [decide_eq_true (show 1≤hk1∧hk1≤7 by omega),Bool.true_and] at hhb;have HHB:=Hd hhb;clear hhb hk1l hk7;have HR9:Hid (RK w5 w.heap.size r.nm r.goal (.slice (some ⟨b1,o1,none⟩) r.holes.length ch) (.slice af r.fnd.length cf) (.slice (some ⟨bb,bo,none⟩) r.by'.length cb)):=Hd (HR5.out.below (HBE.out ▸ HB5c.out));obtain ⟨e0,e1,e2,e3,e4⟩:=HR9.out.cells;have CP1:=Hd (gN r.fnd (by have:=HS.out.f.1;omega) (fun p hp=>(HS.out.f.2 p hp).1) (zCz r.fnd (vT HCF.out).1 (by have:=HS.out.f.1;omega)) _ (hn1,hk1) w5 (HR.out.F.below HB6.out));go_wp2_with fail;refine CP1.out.mono ?_;intro e w6 h6;unfold yT at h6;obtain ⟨hb6,he6⟩:=h6;have HB6b:Hid (Below bm w9 w6):=Hd (HB5c.out.trans (hb6.mono (by have:=HB5c.out.size;have:=HBE.out;omega)));have HB7:Hid (Below w.heap.size w w6):=Hd (zC HB6.out hb6);have HM6:=Hd (HM5.out.below hb6 HM5.out.lt);have HK6:Hid (w6.heap[gh]?=some (.cells #[.string hn1,.int .u8 (hk1:Int)] 50 (0,0))):=Hd (keeps hb6 HK5.out);have HR10:=Hd (HR9.out.below hb6);clear hb6 CP1 g0 g1 e0 e1 e2 e3 e4 hl2 HK5 HM5 HB5c HB6 HM3 HK3 HB3b HB3 HM2 HK2 HB2;obtain ⟨e0,e1,e2,e3,e4⟩:=HR10.out.cells;have g0:w6.cell? ⟨gh,0,none⟩=some (.string hn1):=by simp [World.cell?,HK6.out]
       have g1:w6.cell? ⟨gh,1,none⟩=some (.int .u8 (hk1:Int)):=by simp [World.cell?,HK6.out]
       have CP2:=Hd (gN r.by' (by have:=HS.out.b.1;omega) (fun p hp=>(HS.out.b.2 p hp).1) (zCz r.by' (vT HCB.out).1 (by have:=HS.out.b.1;omega)) _ (hn1,hk1) w6 (HR.out.B.below HB7.out));rw [← hh] at *;generalize yK r.fnd (hn1,hk1)=z1 at *;generalize yK r.by' (hn1,hk1)=z2 at *;by_cases hz1:0≤z1
       ·rw [iP hz1] at he6;subst he6;go_wp2_with fail;refine CP2.out.mono ?_;intro e w7 h7;unfold yT at h7;obtain ⟨hb7,he7⟩:=h7;have HB8:Hid (Below bm w9 w7):=Hd (HB6b.out.trans (hb7.mono (by have:=HB6b.out.size;have:=HBE.out;omega)));have HB9:Hid (Below w.heap.size w w7):=Hd (zC HB7.out hb7);have HM7:=Hd (HM6.out.below hb7 HM6.out.lt);clear hb7 CP2 g0 g1 e0 e1 e2 e3 e4;by_cases hz0:z1=0
        ·subst hz0;have HX:=Hd (HERR.out w7 (by rw [HHB.out];rfl) HB9.out);by_cases hz2:0≤z2
         ·rw [iP hz2] at he7;subst he7;go_wp2_with fail;exact HX.out
         ·rw [iN hz2] at he7;subst he7;go_wp2_with fail;exact HX.out
        ·have y1:(z1 == 0)=false:=by rw [bE];exact hz0
         by_cases hz2:0≤z2
         ·rw [iP hz2] at he7;subst he7;have HX:=Hd (HNEXT.out w7 (by rw [HHB.out,decide_eq_true (show 1≤z1 by omega),decide_eq_true hz2];rfl) HM7.out HB8.out);clear hz0 hz1 hz2;go_wp2_with fail
          case roundEnd=>exact ⟨HX.out,HMS.out⟩
         ·rw [iN hz2] at he7;subst he7;have HX:=Hd (HERR.out w7 (by rw [HHB.out,decide_eq_false hz2,Bool.and_false]) HB9.out);clear hz0 hz1 hz2;go_wp2_with fail;exact HX.out
       ·rw [iN hz1] at he6;subst he6;have HX:=Hd (fun w' hb=>HERR.out w' (by rw [HHB.out,decide_eq_false (show ¬ 1≤z1 by omega)];rfl) hb);clear hz1;go_wp2_with fail;refine CP2.out.mono ?_;intro e w7 h7;unfold yT at h7;obtain ⟨hb7,he7⟩:=h7;have HX:=Hd (HX.out w7 (zC HB7.out hb7));clear hb7 CP2 g0 g1 e0 e1 e2 e3 e4;by_cases hz2:0≤z2
        ·rw [iP hz2] at he7;subst he7;go_wp2_with fail;exact HX.out
        ·rw [iN hz2] at he7;subst he7;go_wp2_with fail;exact HX.out
     ·obtain rfl:k=r.holes.length:=by omega
      have hkl:¬ (r.holes.length:Int)<r.holes.length:=by omega
      have HX:=Hd (HQ.out 0 wr (zSx HT1.out HL16.out HS2.out HOK.out) HB7.out);go_wp2_with fail;exact HX.out
end Go.Proofs.YtbjkdmbcpkopjaaGreatDoor
