/- Layer 17: the program's At, walked. (Printed by genat.py.) -/
import Derived.Test.YtbjkdmbcpkopjaaGreatDoorUntilMt
import Derived.Test.YtbjkdmbcpkopjaaGreatDoorCoreMt
import Derived.Test.YtbjkdmbcpkopjaaGreatDoorRefMAMt
import Derived.Test.YtbjkdmbcpkopjaaGreatDoorRuleCheckMt
import Derived.Test.YtbjkdmbcpkopjaaGreatDoorUpsWMt
import Derived.Test.YtbjkdmbcpkopjaaGreatDoorRuleVMt
import Derived.Test.YtbjkdmbcpkopjaaGreatDoorStillMt
import Derived.Deep.RegionHeld3
namespace Go.Proofs.YtbjkdmbcpkopjaaGreatDoor
set_option maxRecDepth 100000
set_option maxHeartbeats 32000000
set_option linter.all false
attribute [local irreducible] Calls
attribute [local irreducible] wpStill
open Go.RowKit

theorem RK.drewc {W:World} {g:Nat} {nm:ByteArray} {goal:Nat} {vh vf vb:Value} (h:RK W g nm goal vh vf vb):W.drew.cell? ⟨g,3,none⟩=some vf:=h.cells.2.2.2.1
theorem zAb {w:World} {B:Nat} {v:Value} {l:List Prt} (h:w.ownsRow B 3 1 v l.length ((endsL l).map (Value.int .i64))):zI w v .i64 (endsL l):=by
 unfold zI;rw [yC];exact Row.of_owns h
abbrev NormalIn (R:Act→World→Prop):Exit→Act→World→Prop:=fun e a w=>match e with
 | .normal=>R a w
 | _=>False
theorem fH {P:Program} {id:Nat} {ops:Array Oper} {a:Act} {w:World} {Q:Exit→Act→World→Prop} (F:Act→Act→World→Prop) (h1:(Code.region id ops true).wp P (NormalIn (F a)) a w) (h2:∀ a' w',F a a' w'→Q .normal a' w'):(Code.region id ops true).wp P Q a w :=
 Code.wp_mono (fun e a' w' h=>by cases e <;> first | exact h2 _ _ h | cases h) h1
theorem zMl:(Tryz.prog.info? 5).map (fun i=>(i.zero,i.size,i.bytes))=some (some (.int .u8 0),1,1):=by kernel_rfl
theorem zFp:(Tryz.prog.info? 46).map (fun i=>(i.zero,i.size,i.bytes))=some (some (.agg #[.string ⟨#[]⟩,.int .i64 0,.int .i64 0]),3,32):=by kernel_rfl
theorem AtW.kcells {g bm:Nat} {hm hk hb:List Hl} {vf vl vfe ve vk vb:Value} {X:List (Nat×Hl)} {B0:Nat} {w0 W8 W w':World} (h:AtW g bm hm hk hb vf vl vfe ve vk vb X B0 w0 W8 W) (hg:W.grownBy w' vk.ownBlock):w'.cell? ⟨g,5,none⟩=some vk∧∀ j,w'.frozen? ⟨g,j,none⟩=false:=by
 have e:w'.heap[g]?=W.heap[g]?:=hg.block g (by have:=h.base;omega) (fun e=>by have:=(h.k.lt g e.symm).1;omega);simp only [World.cell?,World.frozen?,e,h.s];exact ⟨rfl,fun j=>by simp⟩
theorem AtW.bcells {g bm:Nat} {hm hk hb:List Hl} {vf vl vfe ve vk vb:Value} {X:List (Nat×Hl)} {B0:Nat} {w0 W8 W w':World} (h:AtW g bm hm hk hb vf vl vfe ve vk vb X B0 w0 W8 W) (hg:W.grownBy w' vb.ownBlock):w'.cell? ⟨g,6,none⟩=some vb∧∀ j,w'.frozen? ⟨g,j,none⟩=false:=by
 have e:w'.heap[g]?=W.heap[g]?:=hg.block g (by have:=h.base;omega) (fun e=>by have:=(h.b.lt g e.symm).1;omega);simp only [World.cell?,World.frozen?,e,h.s];exact ⟨rfl,fun j=>by simp⟩
theorem AtW.kx {g bm:Nat} {hm hk hb:List Hl} {vf vl vfe ve vk vb:Value} {gh:Nat} {y:Hl} {B0:Nat} {w0 W8 W w':World} (h:AtW g bm hm hk hb vf vl vfe ve vk vb [(gh,y)] B0 w0 W8 W) (hg:W.grownBy w' vk.ownBlock):w'.cell? ⟨gh,0,none⟩=some (.string y.1)∧w'.cell? ⟨gh,1,none⟩=some (.int .u8 (y.2:Int)):=by
 obtain ⟨a,b⟩:=h.x (gh,y) (by simp);have e:=jA h.k hg a (by decide);simp only [World.cell?,e,holeO];exact ⟨rfl,rfl⟩
theorem AtW.bx {g bm:Nat} {hm hk hb:List Hl} {vf vl vfe ve vk vb:Value} {gh:Nat} {y:Hl} {B0:Nat} {w0 W8 W w':World} (h:AtW g bm hm hk hb vf vl vfe ve vk vb [(gh,y)] B0 w0 W8 W) (hg:W.grownBy w' vb.ownBlock):w'.cell? ⟨gh,0,none⟩=some (.string y.1)∧w'.cell? ⟨gh,1,none⟩=some (.int .u8 (y.2:Int)):=by
 obtain ⟨a,b⟩:=h.x (gh,y) (by simp);have e:=jA h.b hg a (by decide);simp only [World.cell?,e,holeO];exact ⟨rfl,rfl⟩
theorem yAs (E:SkE) (w0:World):ThenOK E some (.func (.func 53) #[] #[]) w0:=by
 refine ⟨_,_,rfl,jP Tryz.func53 (by kernel_rfl) rfl,fun w σ hk hi=>?_⟩;have HX:=Hd (seekPost.yes (E:=E) (o:=some σ) (σ:=σ) rfl (KeptX.refl E w) hi);generalize seekPost E (some σ) σ w=Q at *;clear hk hi;go_enter Tryz.func53,Tryz.ntmps53
 go_wp2_with fail;exact HX.out
def atRel (r:RuleM) (g bm:Nat) (vf vl vfe ve:Value) (B0:Nat) (w0 W8:World) (iv:Value) (wr:World):Prop :=
 ∃ (k:Nat) (vk vb:Value),iv=.int .i64 (k:Int)∧k≤r.holes.length∧AtW g bm (r.holes.take k) (r.holes.take k) (r.holes.take k) vf vl vfe ve vk vb [] B0 w0 W8 wr
theorem zWv (r:RuleM) (hs:SmallR r) (vh vf vb:Value) (l:List Prt) (hl:SmallL l) (vl:Value) (i:Int) (w:World) (hT:Tabs w) (hM:MaxC w) (hr:RuleIn w r vh vf vb) (hlr:zF w vl l) :
  Calls Tryz.prog 35 #[ruleAgg r vh vf vb,vl,.int .i64 i] w (atPost r (atZ r l i) w):=by
 have HNO:Hid (∀ w',atZ r l i=none→Below w.heap.size w w'→atPost r (atZ r l i) w (.returned (.tuple #[.slice none 0 0,.bool false])) w'):=Hd fun w' h hb=>by unfold atPost;rw [h];exact ⟨hb,rfl⟩
 have HYES:Hid (∀ w' v τ,atZ r l i=some τ→Below w.heap.size w w'→w'.ownsRow w.heap.size 46 3 v r.holes.length (bindsV (bindsOf r.holes τ))→atPost r (atZ r l i) w (.returned (.tuple #[v,.bool true])) w'):=Hd fun w' v τ h hb ho=>by unfold atPost;rw [h];exact ⟨hb,_,rfl,ho⟩
 generalize atPost r (atZ r l i) w=Q at *;obtain ⟨ah,ch,rfl,hch⟩:=Row.shape hr.H;obtain ⟨af,cf,rfl,hcf⟩:=hr.F.slice;obtain ⟨ab,cb,rfl,hcb⟩:=hr.B.slice;obtain ⟨al,cl,rfl,hcl⟩:=hlr.slice;have HS:=Hd hs;have HL:=Hd hl;have HR:=Hd hr;have HLR:=Hd hlr;have HT:=Hd hT;have HMX:=Hd hM;have HR1:Hid (RK (w.alloc (.cells #[.string r.nm,.int .u8 (r.goal:Int),.slice ah r.holes.length ch,.slice af r.fnd.length cf,.slice ab r.by'.length cb] 41)) w.heap.size r.nm r.goal (.slice ah r.holes.length ch) (.slice af r.fnd.length cf) (.slice ab r.by'.length cb)):=Hd (heap_alloc_new _ _);have HB1:Hid (Below w.heap.size w (w.alloc (.cells #[.string r.nm,.int .u8 (r.goal:Int),.slice ah r.holes.length ch,.slice af r.fnd.length cf,.slice ab r.by'.length cb] 41))):=Hd ((bR _ _).alloc (nR _) _);have hhl:=hs.h.1;have hll:=hl.1;clear hr hT hM hs hl hlr;unfold ruleAgg;obtain ⟨e0,e1,e2,e3,e4⟩:=HR1.out.cells;have C1:=Hd (zHn r HS.out _ _ _ _ (HT.out.below HB1.out) (HMX.out.below HB1.out) (HR.out.below HB1.out));unfold ruleAgg at C1;go_enter Tryz.func35,Tryz.ntmps35
 go_wp2_with fail;refine C1.out.mono ?_;rintro e w2 ⟨rfl,hb2⟩;generalize w.alloc (.cells #[.string r.nm,.int .u8 (r.goal:Int),.slice ah r.holes.length ch,.slice af r.fnd.length cf,.slice ab r.by'.length cb] 41)=W1 at *;have HR2:=Hd (HR1.out.below hb2);have HB2:=Hd (zC HB1.out hb2);clear hb2 C1 HB1 HR1 e0 e1 e2 e3 e4;by_cases hz:ruleZ r=0
 case neg =>
  have g1:(ruleZ r != 0)=true:=by rw [bne_iff_ne];exact hz
  have HX:=Hd (HNO.out w2 (by unfold atZ;rw [iN (fun h=>hz h.1)]) HB2.out);clear hz;generalize ruleZ r=z at *;go_wp2_with fail;exact HX.out
 have HZ:=Hd hz;rw [hz];have CW:=Hd (zDu l (by omega) _ w2 (HLR.out.below HB2.out));clear hz;go_wp2_with fail;refine CW.out.mono ?_;rintro e W3 ⟨rfl,hb3⟩;have HRK:=Hd (HR2.out.below hb3);have HB3:=Hd (zC HB2.out hb3);clear hb3 CW HB2 HR2;cases hw:zV l with
 | false =>
  have HX:=Hd (HNO.out W3 (by unfold atZ;rw [iN (fun h=>by rw [hw] at h;cases h.2.1)]) HB3.out);clear hw;go_wp2_with fail;exact HX.out
 | true =>
 have HW:=Hd hw;clear hw;by_cases hi0:i<0
 ·have HX:=Hd (HNO.out W3 (by unfold atZ;rw [iN (fun h=>by omega)]) HB3.out);go_wp2_with fail;exact HX.out
 by_cases hil:(l.length:Int)≤i
 ·have HX:=Hd (HNO.out W3 (by unfold atZ;rw [iN (fun h=>by omega)]) HB3.out);go_wp2_with fail;exact HX.out
 obtain ⟨j,rfl⟩:∃ j:Nat,i=(j:Int):=⟨i.toNat,by omega⟩;have HAT:Hid (atZ r l (j:Int)=(aPart r.fnd l r.holes (fuelZ r.fnd) 0 j (startS r.holes)).head?):=Hd (by
  unfold atZ;rw [iP ⟨HZ.out,HW.out,by omega,by omega⟩,Int.toNat_natCast])
 have HJL:Hid (j<l.length):=Hd (by omega);have HFW:Hid (zV r.fnd=true):=Hd (vI HZ.out).1.well;have CF:=Hd (fun W (hb:Below W3.heap.size W3 W)=>zFx r.fnd (by have:=HS.out.f.1;omega) _ (zJ HFW.out) _ W (HR.out.F.below (zC HB3.out hb)));have CL:=Hd (fun W (hb:Below W3.heap.size W3 W)=>zFx l (by omega) _ (zJ HW.out) _ W (HLR.out.below (zC HB3.out hb)));obtain ⟨e0,e1,e2,e3,e4⟩:=HRK.out.cells;go_upto_region 3 with (fail);clear e0 e1 e2 e3 e4;generalize (Value.bool (decide ((j:Int)<0) || decide (l.length≤j)))=b28;generalize (Value.bool (decide (l.length≤j)))=b27;generalize (Value.bool (decide ((j:Int)<0)))=b26;refine fH (fun a a' w'=>∃ (ya:Option Addr) (yc:Nat) (za:Option Addr) (zc:Nat) (bm:Nat) (W8:World),
  a'=((((((((((((a.put (some 29) (.pointer (some ⟨w.heap.size,3,none⟩))).put (some 30) (.slice af r.fnd.length cf)).put (some 31) (.slice al l.length cl)).put (some 32) (.pointer (some ⟨w.heap.size,3,none⟩))).put (some 33) (.slice af r.fnd.length cf)).put (some 34) (.slice ya r.fnd.length yc)).put (some 35) (.slice al l.length cl)).put (some 36) (.slice za l.length zc)).put (some 37) (.map (some bm))).put (some 38) (.agg #[.slice af r.fnd.length cf,.slice al l.length cl,.slice ya r.fnd.length yc,.slice za l.length zc,.map (some bm),.slice none 0 0,.slice none 0 0,.slice none 0 0])).put (some 39) (.pointer (some ⟨W8.heap.size,0,none⟩))).put (some 8) (.pointer (some ⟨W8.heap.size,0,none⟩))) ∧
  w'=W8.alloc (.cells #[.slice af r.fnd.length cf,.slice al l.length cl,.slice ya r.fnd.length yc,.slice za l.length zc,.map (some bm),.slice none 0 0,.slice none 0 0,.slice none 0 0] 108) ∧
  Below W3.heap.size W3 W8∧RK W8 w.heap.size r.nm r.goal (.slice ah r.holes.length ch) (.slice af r.fnd.length cf) (.slice ab r.by'.length cb)∧zI W8 (.slice ya r.fnd.length yc) .i64 (endsL r.fnd)∧zI W8 (.slice za l.length zc) .i64 (endsL l)∧MapIs W8 bm 0 (fun _=>none)∧W3.heap.size≤bm) ?_ ?_
 refine wp_region_held_drew (S:=(fun W'=>W'.cell? ⟨w.heap.size,3,none⟩=some (.slice af r.fnd.length cf))) (by kernel_rfl) (HRK.out.drewc) (fun hHeld=>?_);have HB:=Hd (bR W3.heap.size W3).drew;have HRKd:Hid (RK W3.drew w.heap.size r.nm r.goal (.slice ah r.holes.length ch) (.slice af r.fnd.length cf) (.slice ab r.by'.length cb)):=Hd HRK.out;generalize W3.drew=wd at *;refine tH 0 _ hHeld ?_;refine tH 1 _ hHeld ?_;refine tH 2 _ hHeld ?_;refine tH 3 _ hHeld ?_;refine tH 4 _ hHeld ?_;refine tH 6 _ hHeld ?_;refine wpAnyH_ready (rs:=[5,8]) (by kernel_rfl) (by simp) ?_;refine AllReadyH.cons (o:=_) rfl (fun K hK=>?a6_5) (AllReadyH.cons (o:=_) rfl (fun K hK=>?a6_8) AllReadyH.nil)
 case a6_5 =>
  go_simp
  go_at_call 51
  refine (CF.out _ HB.out).mono ?_;intro e x7 he;unfold ends2Post at he;obtain ⟨v7,rfl,hbE,ho⟩:=he;have HN7:Hid (zI x7 v7 .i64 (endsL r.fnd)):=Hd (zAb ho);obtain ⟨ya7,yc7,hyv,hyc⟩:=Row.shape HN7.out;rw [yC] at hyv hyc;subst hyv;(try dsimp only)
  have HB7:=Hd (zC HB.out hbE);have HRK7:=Hd (HRKd.out.below hbE);refine hK.out _ _ (HRK7.out.cells.2.2.2.1) (fun hH7=>?_);clear hK K hHeld;clear hbE;(try simp only [qA,qL,qZ,qS])
  refine wpAnyH_ready (rs:=[7,8]) (by kernel_rfl) (by simp) ?_;refine AllReadyH.cons (o:=_) rfl (fun K hK=>?a7_7) (AllReadyH.cons (o:=_) rfl (fun K hK=>?a7_8) AllReadyH.nil)
  case a7_7 =>
   go_simp
   go_at_call 51
   refine (CL.out _ HB7.out).mono ?_;intro e x8 he;unfold ends2Post at he;obtain ⟨v8,rfl,hbE,ho⟩:=he;have HN8:Hid (zI x8 v8 .i64 (endsL l)):=Hd (zAb ho);obtain ⟨ya8,yc8,hyv,hyc⟩:=Row.shape HN8.out;rw [yC] at hyv hyc;subst hyv;(try dsimp only)
   have HB8:=Hd (zC HB7.out hbE);have HRK8:=Hd (HRK7.out.below hbE);have HN7_8:=Hd (Row.below HN7.out hbE);refine hK.out _ _ (HRK8.out.cells.2.2.2.1) (fun hH8=>?_);clear hK K hH7;clear hbE;(try simp only [qA,qL,qZ,qS])
   refine wpAnyH_ready (rs:=[8]) (by kernel_rfl) (by simp) ?_;refine AllReadyH.cons (o:=_) rfl (fun K hK=>?a8_8) AllReadyH.nil
   case a8_8 =>
    go_simp;have hbE:Below x8.heap.size x8 (x8.alloc (.map #[] 0)):=(bR _ _).alloc (nR _) _;have hmm:(Instr.makeMap 101 none).run Tryz.prog x8=.ok (.map (some x8.heap.size)) (x8.alloc (.map #[] 0)):=run_makeMap _ _;have HN9:=Hd (MapIs.made x8);have hle9:W3.heap.size≤x8.heap.size:=HB8.out.size;rw [hmm];simp only [Result.andThen,Oper.upon];have HB9:=Hd (zC HB8.out hbE);have HRK9:=Hd (HRK8.out.below hbE);have HN7_8_9:=Hd (Row.below HN7_8.out hbE);have HN8_9:=Hd (Row.below HN8.out hbE);refine hK.out _ _ (HRK9.out.cells.2.2.2.1) (fun hH9=>?_);clear hK K hH8;clear hmm;generalize hX9:x8.alloc (.map #[] 0)=x9 at *;generalize x8.heap.size=bm9 at *;clear hbE;(try simp only [qA,qL,qZ,qS])
    refine tH 9 _ hH9 ?_;refine rH 10 _ fun K hK=>?_;go_simp;refine hK.out _ (x9.alloc (.cells #[.slice af r.fnd.length cf,.slice al l.length cl,(.slice ya7 r.fnd.length yc7),(.slice ya8 l.length yc8),.map (some bm9),.slice none 0 0,.slice none 0 0,.slice none 0 0] 108)) ((HRK9.out.below ((bR _ _).alloc (nR _) _)).cells.2.2.2.1) (fun hH11=>?_);clear hK K hH9;(try simp only [qA,qL,qZ,qS])
    refine tH 11 _ hH11 ?_;refine wpAnyH_done (by kernel_rfl) ?_ _;refine ⟨ya7,yc7,ya8,yc8,bm9,x9,?_,rfl,HB9.out,HRK9.out,HN7_8_9.out,HN8_9.out,HN9.out,(by omega)⟩
    kernel_rfl
  case a7_8 =>
   go_simp;have hbE:Below x7.heap.size x7 (x7.alloc (.map #[] 0)):=(bR _ _).alloc (nR _) _;have hmm:(Instr.makeMap 101 none).run Tryz.prog x7=.ok (.map (some x7.heap.size)) (x7.alloc (.map #[] 0)):=run_makeMap _ _;have HN13:=Hd (MapIs.made x7);have hle13:W3.heap.size≤x7.heap.size:=HB7.out.size;rw [hmm];simp only [Result.andThen,Oper.upon];have HB13:=Hd (zC HB7.out hbE);have HRK13:=Hd (HRK7.out.below hbE);have HN7_13:=Hd (Row.below HN7.out hbE);refine hK.out _ _ (HRK13.out.cells.2.2.2.1) (fun hH13=>?_);clear hK K hH7;clear hmm;generalize hX13:x7.alloc (.map #[] 0)=x13 at *;generalize x7.heap.size=bm13 at *;clear hbE;(try simp only [qA,qL,qZ,qS])
   refine wpAnyH_ready (rs:=[7]) (by kernel_rfl) (by simp) ?_;refine AllReadyH.cons (o:=_) rfl (fun K hK=>?a13_7) AllReadyH.nil
   case a13_7 =>
    go_simp
    go_at_call 51
    refine (CL.out _ HB13.out).mono ?_;intro e x14 he;unfold ends2Post at he;obtain ⟨v14,rfl,hbE,ho⟩:=he;have HN14:Hid (zI x14 v14 .i64 (endsL l)):=Hd (zAb ho);obtain ⟨ya14,yc14,hyv,hyc⟩:=Row.shape HN14.out;rw [yC] at hyv hyc;subst hyv;(try dsimp only)
    have HB14:=Hd (zC HB13.out hbE);have HRK14:=Hd (HRK13.out.below hbE);have HN7_13_14:=Hd (Row.below HN7_13.out hbE);have HN13_14:=Hd (HN13.out.below hbE HN13.out.lt);refine hK.out _ _ (HRK14.out.cells.2.2.2.1) (fun hH14=>?_);clear hK K hH13;clear hbE;(try simp only [qA,qL,qZ,qS])
    refine tH 9 _ hH14 ?_;refine rH 10 _ fun K hK=>?_;go_simp;refine hK.out _ (x14.alloc (.cells #[.slice af r.fnd.length cf,.slice al l.length cl,(.slice ya7 r.fnd.length yc7),(.slice ya14 l.length yc14),.map (some bm13),.slice none 0 0,.slice none 0 0,.slice none 0 0] 108)) ((HRK14.out.below ((bR _ _).alloc (nR _) _)).cells.2.2.2.1) (fun hH16=>?_);clear hK K hH14;(try simp only [qA,qL,qZ,qS])
    refine tH 11 _ hH16 ?_;refine wpAnyH_done (by kernel_rfl) ?_ _;refine ⟨ya7,yc7,ya14,yc14,bm13,x14,?_,rfl,HB14.out,HRK14.out,HN7_13_14.out,HN14.out,HN13_14.out,(by omega)⟩
    kernel_rfl
 case a6_8 =>
  go_simp;have hbE:Below wd.heap.size wd (wd.alloc (.map #[] 0)):=(bR _ _).alloc (nR _) _;have hmm:(Instr.makeMap 101 none).run Tryz.prog wd=.ok (.map (some wd.heap.size)) (wd.alloc (.map #[] 0)):=run_makeMap _ _;have HN18:=Hd (MapIs.made wd);have hle18:W3.heap.size≤wd.heap.size:=HB.out.size;rw [hmm];simp only [Result.andThen,Oper.upon];have HB18:=Hd (zC HB.out hbE);have HRK18:=Hd (HRKd.out.below hbE);refine hK.out _ _ (HRK18.out.cells.2.2.2.1) (fun hH18=>?_);clear hK K hHeld;clear hmm;generalize hX18:wd.alloc (.map #[] 0)=x18 at *;generalize wd.heap.size=bm18 at *;clear hbE;(try simp only [qA,qL,qZ,qS])
  refine wpAnyH_ready (rs:=[5]) (by kernel_rfl) (by simp) ?_;refine AllReadyH.cons (o:=_) rfl (fun K hK=>?a18_5) AllReadyH.nil
  case a18_5 =>
   go_simp
   go_at_call 51
   refine (CF.out _ HB18.out).mono ?_;intro e x19 he;unfold ends2Post at he;obtain ⟨v19,rfl,hbE,ho⟩:=he;have HN19:Hid (zI x19 v19 .i64 (endsL r.fnd)):=Hd (zAb ho);obtain ⟨ya19,yc19,hyv,hyc⟩:=Row.shape HN19.out;rw [yC] at hyv hyc;subst hyv;(try dsimp only)
   have HB19:=Hd (zC HB18.out hbE);have HRK19:=Hd (HRK18.out.below hbE);have HN18_19:=Hd (HN18.out.below hbE HN18.out.lt);refine hK.out _ _ (HRK19.out.cells.2.2.2.1) (fun hH19=>?_);clear hK K hH18;clear hbE;(try simp only [qA,qL,qZ,qS])
   refine wpAnyH_ready (rs:=[7]) (by kernel_rfl) (by simp) ?_;refine AllReadyH.cons (o:=_) rfl (fun K hK=>?a19_7) AllReadyH.nil
   case a19_7 =>
    go_simp
    go_at_call 51
    refine (CL.out _ HB19.out).mono ?_;intro e x20 he;unfold ends2Post at he;obtain ⟨v20,rfl,hbE,ho⟩:=he;have HN20:Hid (zI x20 v20 .i64 (endsL l)):=Hd (zAb ho);obtain ⟨ya20,yc20,hyv,hyc⟩:=Row.shape HN20.out;rw [yC] at hyv hyc;subst hyv;(try dsimp only)
    have HB20:=Hd (zC HB19.out hbE);have HRK20:=Hd (HRK19.out.below hbE);have HN18_19_20:=Hd (HN18_19.out.below hbE HN18_19.out.lt);have HN19_20:=Hd (Row.below HN19.out hbE);refine hK.out _ _ (HRK20.out.cells.2.2.2.1) (fun hH20=>?_);clear hK K hH19;clear hbE;(try simp only [qA,qL,qZ,qS])
    refine tH 9 _ hH20 ?_;refine rH 10 _ fun K hK=>?_;go_simp;refine hK.out _ (x20.alloc (.cells #[.slice af r.fnd.length cf,.slice al l.length cl,(.slice ya19 r.fnd.length yc19),(.slice ya20 l.length yc20),.map (some bm18),.slice none 0 0,.slice none 0 0,.slice none 0 0] 108)) ((HRK20.out.below ((bR _ _).alloc (nR _) _)).cells.2.2.2.1) (fun hH22=>?_);clear hK K hH20;(try simp only [qA,qL,qZ,qS])
    refine tH 11 _ hH22 ?_;refine wpAnyH_done (by kernel_rfl) ?_ _;refine ⟨ya19,yc19,ya20,yc20,bm18,x20,?_,rfl,HB20.out,HRK20.out,HN19_20.out,HN20.out,HN18_19_20.out,(by omega)⟩
    kernel_rfl
 rintro _ _ ⟨ya,yc,za,zc,bm,W8,rfl,rfl,hb8,hrk8,hfe,hle,hmp,hbm⟩;(try simp only [qA,qL,qZ,qS])
 have HB8:=Hd (zC HB3.out hb8);have hx1:=HB3.out.size;have hx2:=hmp.lt;have HA9:Hid (AtW W8.heap.size bm [] [] [] (.slice af r.fnd.length cf) (.slice al l.length cl) (.slice ya r.fnd.length yc) (.slice za l.length zc) (.slice none 0 0) (.slice none 0 0) [] w.heap.size w W8 (W8.alloc (.cells #[.slice af r.fnd.length cf,.slice al l.length cl,.slice ya r.fnd.length yc,.slice za l.length zc,.map (some bm),.slice none 0 0,.slice none 0 0,.slice none 0 0] 108))):=Hd
  ⟨heap_alloc_new _ _,hmp.below ((bR _ _).alloc (nR _) _) hx2,World.ownsRow_nil _ _ _ _,World.ownsRow_nil _ _ _ _,fun j h1 h2=>Below.heap_alloc _ _ _ h1,⟨by omega,hx2⟩,HB8.out.alloc (by have:=HB8.out.size;omega) _,by simp,fun p hp=>by cases hp⟩
 have HRK9:=Hd (hrk8.below ((bR _ _).alloc (nR _) (.cells #[.slice af r.fnd.length cf,.slice al l.length cl,.slice ya r.fnd.length yc,.slice za l.length zc,.map (some bm),.slice none 0 0,.slice none 0 0,.slice none 0 0] 108)));have HRK8:=Hd hrk8;have HFE:=Hd hfe;have HLE:=Hd hle;have HMP:=Hd hmp;have HGR:Hid (w.heap.size<W8.heap.size):=Hd (by have:=zG hrk8;exact this);have HBM:Hid (w.heap.size≠bm):=Hd (fun e=>by
  obtain ⟨D,⟨es,clock,hbk,_⟩,_⟩:=hmp;unfold RK at hrk8;rw [e,hbk] at hrk8;cases hrk8)
 obtain ⟨e0,e1,e2,e3,e4⟩:=HRK9.out.cells;clear hb8 hrk8 hfe hle hmp hbm hx1 hx2 CF CL;generalize hW9:W8.alloc (.cells #[.slice af r.fnd.length cf,.slice al l.length cl,.slice ya r.fnd.length yc,.slice za l.length zc,.map (some bm),.slice none 0 0,.slice none 0 0,.slice none 0 0] 108)=W9 at *;clear hW9;generalize hgg:W8.heap.size=g at *;have HGG:=Hd hgg;clear hgg;go_wp2_with fail;clear e0 e1 e2 e3 e4;go_loopw [43] (fun iv wr=>atRel r g bm (.slice af r.fnd.length cf) (.slice al l.length cl) (.slice ya r.fnd.length yc) (.slice za l.length zc) w.heap.size w W8 iv wr) (fun iv _=>r.holes.length-(intOf iv).toNat)
 case atStart=>exact ⟨0,.slice none 0 0,.slice none 0 0,rfl,Nat.zero_le _,HA9.out⟩
 case round =>
  obtain ⟨k,vk,vb,rfl,hk,hA⟩:=hrel;have HA:=Hd hA;clear hA;have hwk:IntKind.i64.wrap ((k:Int)+1)=(k:Int)+1:=wI (by omega);by_cases hlt:k<r.holes.length
  ·have hkl:(k:Int)<r.holes.length:=by omega
   have hk0:(0:Int)≤(k:Int):=by omega
   have hkc:(k:Int)<(ch:Int):=by omega
   obtain ⟨b1,o1,rfl,_,_,_,hc1⟩:=HR.out.H.at HA.out.below (show 0<r.holes.length by omega);obtain ⟨d0,d1⟩:=hc1 k hlt;have hdn:∀ z∈r.holes.take k,z.1≠(r.holes[k]).1:=fun z hz=>by
    obtain ⟨q,hq,rfl⟩:=List.mem_iff_getElem.1 hz;rw [List.length_take] at hq;rw [List.getElem_take];exact (kC hlt ((kO HZ.out).2.2.2.2.2.2.2 k hlt)).1 q (by omega)
   have hys:=HS.out.h.2 _ (gM hlt);have htk:=jO hlt;have hlen:(r.holes.take k).length=k:=by rw [List.length_take];omega
   obtain ⟨y,hy⟩:∃ y,y=r.holes[k]:=⟨_,rfl⟩;rw [← hy] at d0 d1 hdn hys htk;obtain ⟨yn,yk⟩:=y;simp only [] at d0 d1 hys;have HTK:=Hd htk;have HMS:Hid (r.holes.length-(k+1)<r.holes.length-k):=Hd (by omega);have HA1:=Hd (HA.out.hole (yn,yk));obtain ⟨x0,x1,x2⟩:=HA1.out.xc;obtain ⟨c4,c5,c6,c7,cz⟩:=HA1.out.cells;have HLN:=Hd hlen;have HDN:=Hd hdn;have HYS:=Hd hys;clear hc1 hy htk hlen hdn hys HA;unfold holeO at x0 x1 c4 c5 c6 c7 cz HA1;simp only [] at x0 x1 c4 c5 c6 c7 cz HA1;go_upto_region 7 with (fail);clear d0 d1 x0 x1 x2 c4 c5 c6 c7 cz;generalize wr.alloc (.cells #[.string yn,.int .u8 (yk:Int)] 50)=W2 at *;generalize wr.heap.size=gh at *;obtain ⟨x0,x1,x2⟩:=HA1.out.xc;obtain ⟨c4,c5,c6,c7,cz⟩:=HA1.out.cells;simp only [] at x0 x1;go_still_tail 7,(by kernel_rfl);change wpList _ _ _ _ _ W2.drew;obtain ⟨w4,hup,hA4⟩:=HA1.out.drew.put (yn,yk) HDN.out (by rw [HLN.out];have:=(kO HZ.out).2.2.2.2.2.1;omega) HYS.out.1;rw [HLN.out] at hup;clear x0 x1 x2 c4 c5 c6 c7 cz HA1;have HA4:=Hd hA4;clear hA4;obtain ⟨x0,x1,x2⟩:=HA4.out.xc;obtain ⟨c4,c5,c6,c7,cz⟩:=HA4.out.cells;simp only [] at x0 x1;go_wp2_with (at_mapUpdate;refine yP rfl _ _ _ _ hup rfl rfl rfl rfl ?_);clear hup;have hkk:k≤1048576:=by omega
   clear x0 x1 x2 c4 c5 c6 c7 cz;refine fH (fun a a' w'=>∃ (v2a:Option Addr) (v2n v2c gb:Nat),a'=(((((((((((a.put (some 55) (.pointer (some ⟨g,0,none⟩))).put (some 56) (.pointer (some ⟨g,0,none⟩))).put (some 57) (.pointer (some ⟨g,0,none⟩))).put (some 58) (.pointer (some ⟨g,5,none⟩))).put (some 59) vk).put (some 60) (.pointer (some ⟨gh,1,none⟩))).put (some 61) (.int .u8 (yk:Int))).put (some 62) (.slice (some ⟨gb,0,none⟩) 1 1)).put (some 63) (.slice v2a v2n v2c)).put (some 64) (.pointer (some ⟨g,0,none⟩))).put (some 65) (.pointer (some ⟨g,5,none⟩)))∧AtW g bm (r.holes.take k++[(yn,yk)]) (r.holes.take k++[(yn,yk)]) (r.holes.take k) (.slice af r.fnd.length cf) (.slice al l.length cl) (.slice ya r.fnd.length yc) (.slice za l.length zc) (.slice v2a v2n v2c) vb [(gh,(yn,yk))] w.heap.size w W8 w') ?_ ?_
   ·refine wp_region_held_drew (S:=fun W'=>W'.cell? ⟨gh,1,none⟩=some (.int .u8 (yk:Int))) (by kernel_rfl) (HA4.out.drew.xc.2.1) (fun hHeld=>?_);have HD:=Hd HA4.out.drew;clear HA4;generalize World.drew _=wd at *;refine tH 0 55 hHeld ?_;refine tH 1 56 hHeld ?_;refine tH 2 57 hHeld ?_;refine tH 3 58 hHeld ?_;refine tH 5 60 hHeld ?_;refine tH 6 61 hHeld ?_;have HLT:=Hd (HD.out.alloc (.cells #[.int .u8 (yk:Int)] 5));refine wpAnyH_ready (rs:=[4,7]) (by kernel_rfl) (by simp) ?_;refine AllReadyH.cons (o:=⟨some 59,_,_,_,_,_⟩) rfl (fun K hK=>?q8A) (AllReadyH.cons (o:=⟨some 62,_,_,_,_,_⟩) rfl (fun K hK=>?q8B) AllReadyH.nil)
    case q8A =>
     obtain ⟨c4,c5,c6,c7,cz⟩:=HD.out.cells;go_simp;clear c4 c5 c6 c7 cz;refine hK.out _ _ hHeld (fun hH2=>?_);clear hK K hHeld;(try simp only [qA,qL,qZ,qS])
     refine rH 7 (some 62) fun K hK=>?_;go_simp;refine hK.out _ (wd.alloc (.cells #[.int .u8 (yk:Int)] 5)) (HLT.out.xc.2.1) (fun hH3=>?_);clear hK K hH2;(try simp only [qA,qL,qZ,qS])
     refine rH 8 (some 63) fun K hK=>?_;rw [iP (by kernel_rfl)];obtain ⟨vx,w6,hr,hown,hgr,_⟩:=vM (P:=Tryz.prog) wd #[.int .u8 (yk:Int)] 5 105 105 5 Tryz.underlying105 (g+1) zMl rfl (by decide) vk _ _ HD.out.k 1 1 rfl (nR _) (by intro u hu;simp at hu;subst hu;rfl) (by rw [HLN.out];omega) (by rw [HLN.out];omega) (by have:=HD.out.base;omega);obtain ⟨vxa,vxn,vxc,rfl⟩:=zO hown;refine zM _ _ _ _ hr rfl rfl rfl rfl ?_;refine hK.out _ _ (HLT.out.kx hgr).2 (fun hH5=>?_);clear hK K hr hH3;(try simp only [qA,qL,qZ,qS])
     refine tH 9 64 hH5 ?_;refine tH 10 65 hH5 ?_;obtain ⟨cc,cz⟩:=HLT.out.kcells hgr;have HF:=Hd (HLT.out.kind (yn,yk) hown hgr);refine rH 11 none fun K hK=>?_;clear hown hgr;go_simp;refine hK.out _ _ (HF.out.xc.2.1) (fun hH6=>?_);clear hK K hH5 cc cz;(try simp only [qA,qL,qZ,qS])
     refine wpAnyH_done (by kernel_rfl) ?_ _;refine ⟨vxa,vxn,vxc,wd.heap.size,?_,HF.out⟩
     kernel_rfl
    case q8B =>
     go_simp;refine hK.out _ (wd.alloc (.cells #[.int .u8 (yk:Int)] 5)) (HLT.out.xc.2.1) (fun hH2=>?_);clear hK K hHeld;(try simp only [qA,qL,qZ,qS])
     refine rH 4 (some 59) fun K hK=>?_;obtain ⟨c4,c5,c6,c7,cz⟩:=HLT.out.cells;go_simp;clear c4 c5 c6 c7 cz;refine hK.out _ _ hH2 (fun hH3=>?_);clear hK K hH2;(try simp only [qA,qL,qZ,qS])
     refine rH 8 (some 63) fun K hK=>?_;rw [iP (by kernel_rfl)];obtain ⟨vx,w6,hr,hown,hgr,_⟩:=vM (P:=Tryz.prog) wd #[.int .u8 (yk:Int)] 5 105 105 5 Tryz.underlying105 (g+1) zMl rfl (by decide) vk _ _ HD.out.k 1 1 rfl (nR _) (by intro u hu;simp at hu;subst hu;rfl) (by rw [HLN.out];omega) (by rw [HLN.out];omega) (by have:=HD.out.base;omega);obtain ⟨vxa,vxn,vxc,rfl⟩:=zO hown;refine zM _ _ _ _ hr rfl rfl rfl rfl ?_;refine hK.out _ _ (HLT.out.kx hgr).2 (fun hH5=>?_);clear hK K hr hH3;(try simp only [qA,qL,qZ,qS])
     refine tH 9 64 hH5 ?_;refine tH 10 65 hH5 ?_;obtain ⟨cc,cz⟩:=HLT.out.kcells hgr;have HF:=Hd (HLT.out.kind (yn,yk) hown hgr);refine rH 11 none fun K hK=>?_;clear hown hgr;go_simp;refine hK.out _ _ (HF.out.xc.2.1) (fun hH6=>?_);clear hK K hH5 cc cz;(try simp only [qA,qL,qZ,qS])
     refine wpAnyH_done (by kernel_rfl) ?_ _;refine ⟨vxa,vxn,vxc,wd.heap.size,?_,HF.out⟩
     kernel_rfl
   rintro _ _ ⟨v2a,v2n,v2c,gb,rfl,hA⟩;have HA6:=Hd hA;clear hA HA4;(try simp only [qA,qL,qZ,qS])
   go_upto_region 9 with (fail);refine fH (fun a a' w'=>∃ (v3a:Option Addr) (v3n v3c gb:Nat),a'=((((((((((((a.put (some 66) (.pointer (some ⟨g,0,none⟩))).put (some 67) (.pointer (some ⟨g,0,none⟩))).put (some 68) (.pointer (some ⟨g,0,none⟩))).put (some 69) (.pointer (some ⟨g,6,none⟩))).put (some 70) vb).put (some 71) (.pointer (some ⟨gh,0,none⟩))).put (some 72) (.string yn)).put (some 73) (.agg #[.string yn,.int .i64 0,.int .i64 0])).put (some 74) (.slice (some ⟨gb,0,none⟩) 1 1)).put (some 75) (.slice v3a v3n v3c)).put (some 76) (.pointer (some ⟨g,0,none⟩))).put (some 77) (.pointer (some ⟨g,6,none⟩)))∧AtW g bm (r.holes.take k++[(yn,yk)]) (r.holes.take k++[(yn,yk)]) (r.holes.take k++[(yn,yk)]) (.slice af r.fnd.length cf) (.slice al l.length cl) (.slice ya r.fnd.length yc) (.slice za l.length zc) (.slice v2a v2n v2c) (.slice v3a v3n v3c) [(gh,(yn,yk))] w.heap.size w W8 w') ?_ ?_
   ·refine wp_region_held_drew (S:=fun W'=>W'.cell? ⟨gh,0,none⟩=some (.string yn)) (by kernel_rfl) (HA6.out.drew.xc.1) (fun hHeld=>?_);have HD:=Hd HA6.out.drew;clear HA6;generalize World.drew _=wd at *;refine tH 0 66 hHeld ?_;refine tH 1 67 hHeld ?_;refine tH 2 68 hHeld ?_;refine tH 3 69 hHeld ?_;refine tH 5 71 hHeld ?_;refine tH 6 72 hHeld ?_;refine tH 7 73 hHeld ?_;have HLT:=Hd (HD.out.alloc (.cells #[.string yn,.int .i64 0,.int .i64 0] 46));refine wpAnyH_ready (rs:=[4,8]) (by kernel_rfl) (by simp) ?_;refine AllReadyH.cons (o:=⟨some 70,_,_,_,_,_⟩) rfl (fun K hK=>?q9A) (AllReadyH.cons (o:=⟨some 74,_,_,_,_,_⟩) rfl (fun K hK=>?q9B) AllReadyH.nil)
    case q9A =>
     obtain ⟨c4,c5,c6,c7,cz⟩:=HD.out.cells;go_simp;clear c4 c5 c6 c7 cz;refine hK.out _ _ hHeld (fun hH2=>?_);clear hK K hHeld;(try simp only [qA,qL,qZ,qS])
     refine rH 8 (some 74) fun K hK=>?_;go_simp;refine hK.out _ (wd.alloc (.cells #[.string yn,.int .i64 0,.int .i64 0] 46)) (HLT.out.xc.1) (fun hH3=>?_);clear hK K hH2;(try simp only [qA,qL,qZ,qS])
     refine rH 9 (some 75) fun K hK=>?_;rw [iP (by kernel_rfl)];obtain ⟨vx,w6,hr,hown,hgr,_⟩:=vM (P:=Tryz.prog) wd #[.string yn,.int .i64 0,.int .i64 0] 46 42 42 46 Tryz.underlying42 (g+1) zFp rfl (by decide) vb _ _ HD.out.b 1 1 rfl (nR _) (by intro u hu;simp at hu;rcases hu with rfl | rfl | rfl <;> rfl) (by rw [HLN.out];omega) (by rw [HLN.out];omega) (by have:=HD.out.base;omega);obtain ⟨vxa,vxn,vxc,rfl⟩:=zO hown;refine zM _ _ _ _ hr rfl rfl rfl rfl ?_;refine hK.out _ _ (HLT.out.bx hgr).1 (fun hH5=>?_);clear hK K hr hH3;(try simp only [qA,qL,qZ,qS])
     refine tH 10 76 hH5 ?_;refine tH 11 77 hH5 ?_;obtain ⟨cc,cz⟩:=HLT.out.bcells hgr;have HF:=Hd (HLT.out.bind (yn,yk) hown hgr);refine rH 12 none fun K hK=>?_;clear hown hgr;go_simp;refine hK.out _ _ (HF.out.xc.1) (fun hH6=>?_);clear hK K hH5 cc cz;(try simp only [qA,qL,qZ,qS])
     refine wpAnyH_done (by kernel_rfl) ?_ _;refine ⟨vxa,vxn,vxc,wd.heap.size,?_,HF.out⟩
     kernel_rfl
    case q9B =>
     go_simp;refine hK.out _ (wd.alloc (.cells #[.string yn,.int .i64 0,.int .i64 0] 46)) (HLT.out.xc.1) (fun hH2=>?_);clear hK K hHeld;(try simp only [qA,qL,qZ,qS])
     refine rH 4 (some 70) fun K hK=>?_;obtain ⟨c4,c5,c6,c7,cz⟩:=HLT.out.cells;go_simp;clear c4 c5 c6 c7 cz;refine hK.out _ _ hH2 (fun hH3=>?_);clear hK K hH2;(try simp only [qA,qL,qZ,qS])
     refine rH 9 (some 75) fun K hK=>?_;rw [iP (by kernel_rfl)];obtain ⟨vx,w6,hr,hown,hgr,_⟩:=vM (P:=Tryz.prog) wd #[.string yn,.int .i64 0,.int .i64 0] 46 42 42 46 Tryz.underlying42 (g+1) zFp rfl (by decide) vb _ _ HD.out.b 1 1 rfl (nR _) (by intro u hu;simp at hu;rcases hu with rfl | rfl | rfl <;> rfl) (by rw [HLN.out];omega) (by rw [HLN.out];omega) (by have:=HD.out.base;omega);obtain ⟨vxa,vxn,vxc,rfl⟩:=zO hown;refine zM _ _ _ _ hr rfl rfl rfl rfl ?_;refine hK.out _ _ (HLT.out.bx hgr).1 (fun hH5=>?_);clear hK K hr hH3;(try simp only [qA,qL,qZ,qS])
     refine tH 10 76 hH5 ?_;refine tH 11 77 hH5 ?_;obtain ⟨cc,cz⟩:=HLT.out.bcells hgr;have HF:=Hd (HLT.out.bind (yn,yk) hown hgr);refine rH 12 none fun K hK=>?_;clear hown hgr;go_simp;refine hK.out _ _ (HF.out.xc.1) (fun hH6=>?_);clear hK K hH5 cc cz;(try simp only [qA,qL,qZ,qS])
     refine wpAnyH_done (by kernel_rfl) ?_ _;refine ⟨vxa,vxn,vxc,wd.heap.size,?_,HF.out⟩
     kernel_rfl
   rintro _ w9 ⟨v3a,v3n,v3c,gc,rfl,hA⟩;have HA9:=Hd hA.noX;clear hA HA6;(try simp only [qA,qL,qZ,qS])
   have HRL:Hid (atRel r g bm (.slice af r.fnd.length cf) (.slice al l.length cl) (.slice ya r.fnd.length yc) (.slice za l.length zc) w.heap.size w W8 (.int .i64 ((k:Int)+1)) w9):=Hd
    ⟨k+1,(.slice v2a v2n v2c),(.slice v3a v3n v3c),by push_cast;rfl,by omega,by rw [HTK.out];exact HA9.out⟩
   go_wp2_with fail
   case roundEnd=>exact ⟨HRL.out,by simp only [intOf];omega⟩
  ·obtain rfl:k=r.holes.length:=by omega
   have HA1:Hid (AtW g bm r.holes r.holes r.holes (.slice af r.fnd.length cf) (.slice al l.length cl) (.slice ya r.fnd.length yc) (.slice za l.length zc) vk vb [] w.heap.size w W8 wr):=Hd (by
    have:=HA.out;rw [List.take_length] at this;exact this)
   have hrw:RK wr w.heap.size r.nm r.goal (.slice ah r.holes.length ch) (.slice af r.fnd.length cf) (.slice ab r.by'.length cb):=by
    have h1:=HRK8.out;unfold RK at *;rw [HA1.out.old _ HGR.out HBM.out];exact h1
   obtain ⟨e0,e1,e2,e3,e4⟩:=hrw.cells;obtain ⟨c4,c5,c6,c7,cz⟩:=HA1.out.cells;have h16:=(kO HZ.out).2.2.2.2.2.1;have hmk:=zMn r.holes.length (by omega) wr;have hgs:=HA1.out.base;have hB8:Below w.heap.size w W8:=HB8.out;have HS1:Hid (SkIn (atE r l g bm (.slice af r.fnd.length cf) (.slice al l.length cl) (.slice ya r.fnd.length yc) (.slice za l.length zc) vk vb (.slice (some ⟨wr.heap.size,0,none⟩) r.holes.length r.holes.length)) (startS r.holes) ((wr.alloc (.cells (List.replicate r.holes.length (Value.bool false)).toArray 4)).setCell ⟨g,7,none⟩ (.slice (some ⟨wr.heap.size,0,none⟩) r.holes.length r.holes.length))):=Hd
    (HA1.out.search HGG.out.symm (HR.out.F.below hB8) (HLR.out.below hB8) HFE.out HLE.out HMP.out (by have:=(xT HFW.out).1;omega) (by have:=HJL.out;omega) (by omega))
   have HOK:Hid (SkOK (atE r l g bm (.slice af r.fnd.length cf) (.slice al l.length cl) (.slice ya r.fnd.length yc) (.slice za l.length zc) vk vb (.slice (some ⟨wr.heap.size,0,none⟩) r.holes.length r.holes.length))):=Hd (HA1.out.ok HZ.out HS.out HW.out HL.out _);have HKB:Hid (∀ q,vb.ownBlock=some q→w.heap.size≤q):=Hd (fun q e=>by have:=(HA1.out.b.lt q e).1;have:=HGR.out;omega);have HKZ:Hid (w.heap.size≤wr.heap.size∧w.heap.size≤g):=Hd (by have:=HGR.out;omega);have HBF:Hid (Below w.heap.size w ((wr.alloc (.cells (List.replicate r.holes.length (Value.bool false)).toArray 4)).setCell ⟨g,7,none⟩ (.slice (some ⟨wr.heap.size,0,none⟩) r.holes.length r.holes.length))):=Hd
    ((HA1.out.below.alloc HKZ.out.1 _).setCell (p:=⟨g,7,none⟩) HKZ.out.2 _)
   have d7:(wr.alloc (.cells (List.replicate r.holes.length (Value.bool false)).toArray 4)).cell? ⟨g,7,none⟩=some (.slice none 0 0):=by
    rw [World.cell?_alloc_past _ _ _ (by show g<wr.heap.size;omega)];exact c7
   have dz:(wr.alloc (.cells (List.replicate r.holes.length (Value.bool false)).toArray 4)).frozen? ⟨g,7,none⟩=false:=by
    have h1:=cz 7;unfold World.frozen? at h1 ⊢;rw [Below.heap_alloc _ _ _ (show g<wr.heap.size by omega)];exact h1
   clear hrw HA HA1 c4 c5 c6 c7 cz e0 e1 e3 e4 hB8;generalize hWA:wr.alloc (.cells (List.replicate r.holes.length (Value.bool false)).toArray 4)=WA at *;have HWA:=Hd hWA;clear hWA;have CT:Hid (Calls Tryz.prog 52 #[.pointer (some ⟨g,0,none⟩),.int .i64 0,.int .i64 (j:Int),.func (.func 53) #[] #[]] (WA.setCell ⟨g,7,none⟩ (.slice (some ⟨wr.heap.size,0,none⟩) r.holes.length r.holes.length)) (seekPost (atE r l g bm (.slice af r.fnd.length cf) (.slice al l.length cl) (.slice ya r.fnd.length yc) (.slice za l.length zc) vk vb (.slice (some ⟨wr.heap.size,0,none⟩) r.holes.length r.holes.length)) ((aPart r.fnd l r.holes (fuelZ r.fnd) 0 j (startS r.holes)).head?) (startS r.holes) (WA.setCell ⟨g,7,none⟩ (.slice (some ⟨wr.heap.size,0,none⟩) r.holes.length r.holes.length)))):=Hd
    (yDa _ HOK.out (fun x hx=>by
     obtain ⟨q,hq,rfl⟩:=List.mem_iff_getElem.1 hx;exact (kC hq ((kO HZ.out).2.2.2.2.2.2.2 q hq)).2.2.1) _ j _ HS1.out HJL.out (yAs _ _))
   clear HS1 HOK HWA;rw [← HAT.out] at CT;go_wp2_with fail;clear hmk d7 dz e2;generalize WA.setCell ⟨g,7,none⟩ (.slice (some ⟨wr.heap.size,0,none⟩) r.holes.length r.holes.length)=WF at *;refine CT.out.mono ?_;intro e wG hp;obtain ⟨hk,ho⟩:=hp.out;clear hp CT;have HBG:Hid (Below w.heap.size w wG):=Hd (HBF.out.trans (hk.toBelow HBF.out.size HKB.out (fun q e=>by cases e;exact HKZ.out.1)));clear hk;rcases ho with ⟨τ,ha,rfl,hi⟩ | ⟨ha,rfl,hi⟩
   ·have e6:wG.cell? ⟨g,6,none⟩=some vb:=hi.st.now.cells.2.2.2.2.2.2.1;have hob:wG.ownsRow (g+1) 46 3 vb r.holes.length (bindsV (bindsOf r.holes τ)):=hi.b;have HX:=Hd (HYES.out wG vb τ ha HBG.out (World.ownsRow.base_mono hob (by have:=HKZ.out;omega)));clear hi hob ha;go_wp2_with fail;exact HX.out
   ·have HX:=Hd (HNO.out wG ha HBG.out);clear hi ha;go_wp2_with fail;exact HX.out
end Go.Proofs.YtbjkdmbcpkopjaaGreatDoor
