/- Layer 16: the program's ups, walked. (Printed by genups.py.) -/
import Derived.Test.YtmklemelgdilkaaGreatDoorPackMk
import Derived.Test.YtmklemelgdilkaaGreatDoorInstPMk
import Derived.Test.YtmklemelgdilkaaGreatDoorCheckBMk
import Derived.Deep.RegionHeld3
namespace Go.Proofs.YtmklemelgdilkaaGreatDoor
set_option linter.all false
attribute [local irreducible] Calls
open Go.RowKit

def upRel (l:List Prt) (B go:Nat) (w0:World) (vo vl iv:Value) (wr:World):Prop :=
 ∃ (i:Nat) (st:List (Nat×Int)) (E:List Int),iv=.int .i64 (i:Int)∧i≤l.length∧UpInv l st i∧st.length≤i∧E.length=l.length∧(∀ j,j<i→E.getD j 0=upN l j)∧UpW B go w0 E (osL st) (csL st) vo vl [] wr
def upIn (l:List Prt) (B go:Nat) (w0:World) (E:List Int) (i gp:Nat) (a:Int) (kd:Int) (s:ByteArray) (vo vl:Value) (wr:World):Prop :=
 ∃ (st:List (Nat×Int)),UpInv l st i∧st.length≤i∧UpW B go w0 E (osL st) (csL st) vo vl [(gp,.cells #[.int .u8 a,.int .i64 kd,.string s] 45)] wr
def lenV (v:Value):Nat:=match v with
 | .slice _ n _=>n
 | _=>0
theorem UpInv.cbound {l:List Prt} {us:List Nat} (hl:rowsB l=some us) {o:Nat} {c:Int} {st:List (Nat×Int)} {pos:Nat} (h:UpInv l ((o,c)::st) pos):0≤c∧c≤l.length:=by
 obtain ⟨h1,h2,h3,h4,_,_⟩:=h
 have:=adv_le hl _ _ _ _ h4 h3
 omega
theorem up_row_ints {w:World} {b n:Nat} {E:List Int} (h:w.heap[b]?=some (.cells (intsR E).toArray 3 (0,0))) (hn:n=E.length):RowInts w (.slice (some ⟨b,0,none⟩) n n) .i64 E:=by
 subst hn
 refine ⟨by simp,some ⟨b,0,none⟩,E.length,rfl,Nat.le_refl _,by simp,fun _=>⟨b,0,rfl,keeps_lt h,fun j hj=>?_⟩⟩
 simp only [World.cell?,h,Nat.zero_add]
 simp [intsR]
set_option maxRecDepth 100000 in
set_option maxHeartbeats 16000000 in
theorem rule_ups (l:List Prt) (hw:wellB l=true) (hl:l.length≤1000000000):UpsC l:=by
 intro v w hr
 have HQ:RowKit.Hid (∀ v' w',Below w.heap.size w w'→RowInts w' v' .i64 (upsL l)→(fun (e:Ending) w'=>∃ v',e=.returned v'∧Below w.heap.size w w'∧RowInts w' v' .i64 (upsL l)) (.returned v') w'):=Hd fun v' w' h1 h2=>⟨v',rfl,h1,h2⟩
 generalize (fun (e:Ending) w'=>∃ v',e=.returned v'∧Below w.heap.size w w'∧RowInts w' v' .i64 (upsL l))=Q at *
 have HR:=Hd hr
 have HWL:=Hd (well_rows hw)
 have HWW:=Hd hw
 obtain ⟨va,vcap,rfl,hvc⟩:=hr.slice
 clear hr hw
 have hmk:=Tmake_ints l.length hl
 go_enter Tryz.func65,Tryz.ntmps65
 go_wp2_with fail
 have HW0:RowKit.Hid (UpW w.heap.size w.heap.size w (List.replicate l.length 0) (osL []) (csL []) (.slice none 0 0) (.slice none 0 0) [] (w.alloc (.cells (Array.replicate l.length (Value.int .i64 0)) 3))):=Hd ⟨World.ownsRow_nil _ _ _ _,World.ownsRow_nil _ _ _ _,by
   rw [heap_alloc_new];simp [intsR],(Below.refl _ _).alloc (Nat.le_refl _) _,by simp,Nat.le_refl _,by simp [Value.ownBlock],by simp [Value.ownBlock],fun g e=>by simp [Value.ownBlock] at e,fun p hp=>by cases hp⟩
 generalize w.alloc (.cells (Array.replicate l.length (Value.int .i64 0)) 3)=W0 at *
 generalize hBB:w.heap.size=B at *
 have HBB:=Hd hBB
 clear hBB
 go_loopw [4,5,13] (fun vo vl iv wr=>upRel l B B w vo vl iv wr) (fun _ _ iv _=>l.length-(intOf iv).toNat)
 case atStart=>exact ⟨0,[],List.replicate l.length 0,rfl,Nat.zero_le _,Or.inr rfl,Nat.le_refl _,by simp,fun j hj=>by omega,HW0.out⟩
 case round =>
  obtain ⟨i,st,E,rfl,hi,hinv,hst,hEl,hEq,hW⟩:=hrel
  have HW:=Hd hW
  have HINV:=Hd hinv
  have HEL:=Hd hEl
  have HEQ:=Hd hEq
  clear hW hinv hEl hEq HW0
  by_cases hlt:i<l.length
  ·obtain ⟨b,off,rfl,_,_,hbl,hcell⟩:=HR.out.at (HBB.out ▸ HW.out.below) (show 0<l.length by omega)
   obtain ⟨d0,d1,d2⟩:=hcell i hlt
   obtain ⟨p,hp⟩:∃ p,p=l[i]:=⟨_,rfl⟩
   rw [← hp] at d0 d1 d2
   obtain ⟨a,kd,s⟩:=p
   simp only [] at d0 d1 d2
   have HP:=Hd hp
   obtain ⟨ao,co,al,cl,rfl,rfl,hco,hcl⟩:=HW.out.shape
   have hi0:(0:Int)≤(i:Int):=by omega
   have hil:(i:Int)<l.length:=by omega
   have hwi:IntKind.i64.wrap ((i:Int)+1)=(i:Int)+1:=by rw [IntKind.wrap_i64];omega
   have HW1:=Hd (HW.out.build (.cells #[.int .u8 (a:Int),.int .i64 kd,.string s] 45))
   have HW2:=Hd (HW1.out.put i (-1))
   obtain ⟨e1,e2⟩:=HW1.out.outc i (by rw [HEL.out];exact hlt)
   have HMS:RowKit.Hid (l.length-(i+1)<l.length-i):=Hd (by omega)
   clear hcell hp
   go_wp2_with fail
   clear d0 d1 d2 e1 e2
   generalize (World.setCell _ _ _)=W2 at *
   generalize wr.heap.size=gp at *
   go_loopw [4,5] (fun vo vl wx=>upIn l B B w (E.set i (-1)) i gp (a:Int) kd s vo vl wx) (fun vo _ _=>lenV vo)
   case atStart=>exact ⟨st,HINV.out,hst,HW2.out⟩
   case round =>
    obtain ⟨st2,hinv2,hst2,hW3⟩:=hrel
    have HI2:=Hd hinv2
    have HW3:=Hd hW3
    clear hinv2 hW3 HW1 HW2 HINV HW
    cases st2 with
    | nil =>
     obtain ⟨ao2,co2,al2,cl2,rfl,rfl,hco2,hcl2⟩:=HW3.out.shape
     have hi00:i=0:=by
      rcases HI2.out with h | h
      ·omega
      ·exact h
     have HFIN:RowKit.Hid (∀ vo' vl' L w',UpW B B w (E.set i (-1)) (osL []++[(i:Int)]) (csL []++[kd]) vo' vl' L w'→upRel l B B w vo' vl' (.int .i64 ((i:Int)+1)) w'):=Hd fun vo' vl' L w' h=>by
      subst hi00
      refine ⟨1,[(0,kd)],E.set 0 (-1),rfl,by omega,?_,Nat.le_refl _,by rw [List.length_set];exact HEL.out,fun j hj=>?_,by rw [osL_cons,csL_cons];exact h.less_known⟩
      ·have:=UpInv.root HWW.out hlt
       rw [← HP.out] at this
       exact this
      ·obtain rfl:j=0:=by omega
       rw [List.getD_eq_getElem?_getD,List.getElem?_set_self (by rw [HEL.out];exact hlt)]
       rfl
     have HLO:RowKit.Hid (([]:List (Nat×Int)).length≤1000000000):=Hd (by simp)
     clear hi00
     simp only [List.length_nil] at *
     go_wp2_with fail
     refine wp_region_noPanic ?_
     refine wp_region_held_drew (S:=fun W'=>W'.cell? ⟨gp,1,none⟩=some (.int .i64 kd)) (by kernel_rfl) (HW3.out.drew.kid1 (List.mem_cons_self ..)) (fun hHeld=>?_)
     have HD:=Hd HW3.out.drew
     generalize wr.drew=wd at *
     refine wpAnyH_take (i:=0) (oi:=_) (v:=?vb1_0) rfl (by kernel_rfl) (by kernel_rfl) (by kernel_rfl) (fun _ _ _ h=>h) (Or.inl ⟨by kernel_rfl,?hyb1_0⟩) hHeld ?restb1_0
     case hyb1_0=>intro w hSw;(try dsimp only at hSw);go_simp;(try with_reducible rfl)
     (try simp only [aP])
     refine wpAnyH_take (i:=1) (oi:=_) (v:=?vb2_1) rfl (by kernel_rfl) (by kernel_rfl) (by kernel_rfl) (fun _ _ _ h=>h) (Or.inl ⟨by kernel_rfl,?hyb2_1⟩) hHeld ?restb2_1
     case hyb2_1=>intro w hSw;(try dsimp only at hSw);go_simp;(try with_reducible rfl)
     (try simp only [aP])
     refine wpAnyH_take (i:=4) (oi:=_) (v:=?vb3_4) rfl (by kernel_rfl) (by kernel_rfl) (by kernel_rfl) (fun _ _ _ h=>h) (Or.inl ⟨by kernel_rfl,?hyb3_4⟩) hHeld ?restb3_4
     case hyb3_4=>intro w hSw;(try dsimp only at hSw);go_simp;(try with_reducible rfl)
     (try simp only [aP])
     refine wpAnyH_take (i:=5) (oi:=_) (v:=?vb4_5) rfl (by kernel_rfl) (by kernel_rfl) (by kernel_rfl) (fun _ _ _ h=>h) (Or.inl ⟨by kernel_rfl,?hyb4_5⟩) hHeld ?restb4_5
     case hyb4_5=>intro w hSw;(try dsimp only at hSw);go_simp;(try with_reducible rfl)
     (try simp only [aP])
     refine wpAnyH_take (i:=6) (oi:=_) (v:=?vb5_6) rfl (by kernel_rfl) (by kernel_rfl) (by kernel_rfl) (fun _ _ _ h=>h) (Or.inl ⟨by kernel_rfl,?hyb5_6⟩) hHeld ?restb5_6
     case hyb5_6=>intro w hSw;(try dsimp only at hSw);go_simp;(try with_reducible rfl)
     (try simp only [aP])
     refine wpAnyH_ready (rs:=[2,7]) (by kernel_rfl) (by simp) ?_
     refine AllReadyH.cons (o:=_) rfl (fun K hK=>?ab5_2) (AllReadyH.cons (o:=_) rfl (fun K hK=>?ab5_7) AllReadyH.nil)
     case ab5_2 =>
      go_simp
      have hu:=HD.out.build (litB (i:Int))
      refine hK.out _ (wd.alloc (litB (i:Int))) (hu.kid1 (a:=(a:Int)) (s:=s) (by simp)) (fun hH6=>?_)
      clear hK K hHeld
      have HU6:=Hd hu
      clear hu
      generalize wd.alloc (litB (i:Int))=x6 at *
      generalize wd.heap.size=k6 at *
      (try simp only [aP])
      refine wpAnyH_ready (rs:=[3,7]) (by kernel_rfl) (by simp) ?_
      refine AllReadyH.cons (o:=_) rfl (fun K hK=>?ab6_3) (AllReadyH.cons (o:=_) rfl (fun K hK=>?ab6_7) AllReadyH.nil)
      case ab6_3 =>
       rw [if_pos (by kernel_rfl)]
       obtain ⟨v7,x7,hr,hu⟩:=HU6.out.appO k6 (i:Int) (by simp) (by have:=HLO.out;first | (rw [osL_length];exact this) | (rw [csL_length];exact this))
       refine oper_append_run _ _ _ _ hr rfl rfl rfl rfl ?_
       refine hK.out _ _ (hu.kid1 (a:=(a:Int)) (s:=s) (by simp)) (fun hH7=>?_)
       clear hK K hr hH6
       have HU7:=Hd hu
       clear hu
       (try simp only [aP])
       refine wpAnyH_ready (rs:=[7]) (by kernel_rfl) (by simp) ?_
       refine AllReadyH.cons (o:=_) rfl (fun K hK=>?ab7_7) AllReadyH.nil
       case ab7_7 =>
        go_simp
        have hu:=HU7.out.build (litB kd)
        refine hK.out _ (x7.alloc (litB kd)) (hu.kid1 (a:=(a:Int)) (s:=s) (by simp)) (fun hH8=>?_)
        clear hK K hH7
        have HU8:=Hd hu
        clear hu
        generalize x7.alloc (litB kd)=x8 at *
        generalize x7.heap.size=k8 at *
        (try simp only [aP])
        refine wpAnyH_ready (rs:=[8]) (by kernel_rfl) (by simp) ?_
        refine AllReadyH.cons (o:=_) rfl (fun K hK=>?ab8_8) AllReadyH.nil
        case ab8_8 =>
         rw [if_pos (by kernel_rfl)]
         obtain ⟨v9,x9,hr,hu⟩:=HU8.out.appL k8 kd (by simp) (by have:=HLO.out;first | (rw [osL_length];exact this) | (rw [csL_length];exact this))
         refine oper_append_run _ _ _ _ hr rfl rfl rfl rfl ?_
         refine hK.out _ _ (hu.kid1 (a:=(a:Int)) (s:=s) (by simp)) (fun hH9=>?_)
         clear hK K hr hH8
         have HU9:=Hd hu
         clear hu
         (try simp only [aP])
         refine wpAnyH_take (i:=9) (oi:=_) (v:=?vb10_9) rfl (by kernel_rfl) (by kernel_rfl) (by kernel_rfl) (fun _ _ _ h=>h) (Or.inl ⟨by kernel_rfl,?hyb10_9⟩) hH9 ?restb10_9
         case hyb10_9=>intro w hSw;(try dsimp only at hSw);go_simp;(try with_reducible rfl)
         (try simp only [aP])
         refine wpAnyH_take (i:=10) (oi:=_) (v:=?vb11_10) rfl (by kernel_rfl) (by kernel_rfl) (by kernel_rfl) (fun _ _ _ h=>h) (Or.inl ⟨by kernel_rfl,?hyb11_10⟩) hH9 ?restb11_10
         case hyb11_10=>intro w hSw;(try dsimp only at hSw);go_simp;(try with_reducible rfl)
         (try simp only [aP])
         refine wpAnyH_done (by kernel_rfl) ?_ _
         refine NoPanic.normal ?_
         have HX:=Hd (HFIN.out _ _ _ _ HU9.out)
         go_wp2_with fail
         case roundEnd=>exact ⟨HX.out,HMS.out⟩
      case ab6_7 =>
       go_simp
       have hu:=HU6.out.build (litB kd)
       refine hK.out _ (x6.alloc (litB kd)) (hu.kid1 (a:=(a:Int)) (s:=s) (by simp)) (fun hH12=>?_)
       clear hK K hH6
       have HU12:=Hd hu
       clear hu
       generalize x6.alloc (litB kd)=x12 at *
       generalize x6.heap.size=k12 at *
       (try simp only [aP])
       refine wpAnyH_ready (rs:=[3]) (by kernel_rfl) (by simp) ?_
       refine AllReadyH.cons (o:=_) rfl (fun K hK=>?ab12_3) AllReadyH.nil
       case ab12_3 =>
        rw [if_pos (by kernel_rfl)]
        obtain ⟨v13,x13,hr,hu⟩:=HU12.out.appO k6 (i:Int) (by simp) (by have:=HLO.out;first | (rw [osL_length];exact this) | (rw [csL_length];exact this))
        refine oper_append_run _ _ _ _ hr rfl rfl rfl rfl ?_
        refine hK.out _ _ (hu.kid1 (a:=(a:Int)) (s:=s) (by simp)) (fun hH13=>?_)
        clear hK K hr hH12
        have HU13:=Hd hu
        clear hu
        (try simp only [aP])
        refine wpAnyH_ready (rs:=[8]) (by kernel_rfl) (by simp) ?_
        refine AllReadyH.cons (o:=_) rfl (fun K hK=>?ab13_8) AllReadyH.nil
        case ab13_8 =>
         rw [if_pos (by kernel_rfl)]
         obtain ⟨v14,x14,hr,hu⟩:=HU13.out.appL k12 kd (by simp) (by have:=HLO.out;first | (rw [osL_length];exact this) | (rw [csL_length];exact this))
         refine oper_append_run _ _ _ _ hr rfl rfl rfl rfl ?_
         refine hK.out _ _ (hu.kid1 (a:=(a:Int)) (s:=s) (by simp)) (fun hH14=>?_)
         clear hK K hr hH13
         have HU14:=Hd hu
         clear hu
         (try simp only [aP])
         refine wpAnyH_take (i:=9) (oi:=_) (v:=?vb15_9) rfl (by kernel_rfl) (by kernel_rfl) (by kernel_rfl) (fun _ _ _ h=>h) (Or.inl ⟨by kernel_rfl,?hyb15_9⟩) hH14 ?restb15_9
         case hyb15_9=>intro w hSw;(try dsimp only at hSw);go_simp;(try with_reducible rfl)
         (try simp only [aP])
         refine wpAnyH_take (i:=10) (oi:=_) (v:=?vb16_10) rfl (by kernel_rfl) (by kernel_rfl) (by kernel_rfl) (fun _ _ _ h=>h) (Or.inl ⟨by kernel_rfl,?hyb16_10⟩) hH14 ?restb16_10
         case hyb16_10=>intro w hSw;(try dsimp only at hSw);go_simp;(try with_reducible rfl)
         (try simp only [aP])
         refine wpAnyH_done (by kernel_rfl) ?_ _
         refine NoPanic.normal ?_
         have HX:=Hd (HFIN.out _ _ _ _ HU14.out)
         go_wp2_with fail
         case roundEnd=>exact ⟨HX.out,HMS.out⟩
     case ab5_7 =>
      go_simp
      have hu:=HD.out.build (litB kd)
      refine hK.out _ (wd.alloc (litB kd)) (hu.kid1 (a:=(a:Int)) (s:=s) (by simp)) (fun hH17=>?_)
      clear hK K hHeld
      have HU17:=Hd hu
      clear hu
      generalize wd.alloc (litB kd)=x17 at *
      generalize wd.heap.size=k17 at *
      (try simp only [aP])
      refine wpAnyH_ready (rs:=[2]) (by kernel_rfl) (by simp) ?_
      refine AllReadyH.cons (o:=_) rfl (fun K hK=>?ab17_2) AllReadyH.nil
      case ab17_2 =>
       go_simp
       have hu:=HU17.out.build (litB (i:Int))
       refine hK.out _ (x17.alloc (litB (i:Int))) (hu.kid1 (a:=(a:Int)) (s:=s) (by simp)) (fun hH18=>?_)
       clear hK K hH17
       have HU18:=Hd hu
       clear hu
       generalize x17.alloc (litB (i:Int))=x18 at *
       generalize x17.heap.size=k18 at *
       (try simp only [aP])
       refine wpAnyH_ready (rs:=[3]) (by kernel_rfl) (by simp) ?_
       refine AllReadyH.cons (o:=_) rfl (fun K hK=>?ab18_3) AllReadyH.nil
       case ab18_3 =>
        rw [if_pos (by kernel_rfl)]
        obtain ⟨v19,x19,hr,hu⟩:=HU18.out.appO k18 (i:Int) (by simp) (by have:=HLO.out;first | (rw [osL_length];exact this) | (rw [csL_length];exact this))
        refine oper_append_run _ _ _ _ hr rfl rfl rfl rfl ?_
        refine hK.out _ _ (hu.kid1 (a:=(a:Int)) (s:=s) (by simp)) (fun hH19=>?_)
        clear hK K hr hH18
        have HU19:=Hd hu
        clear hu
        (try simp only [aP])
        refine wpAnyH_ready (rs:=[8]) (by kernel_rfl) (by simp) ?_
        refine AllReadyH.cons (o:=_) rfl (fun K hK=>?ab19_8) AllReadyH.nil
        case ab19_8 =>
         rw [if_pos (by kernel_rfl)]
         obtain ⟨v20,x20,hr,hu⟩:=HU19.out.appL k17 kd (by simp) (by have:=HLO.out;first | (rw [osL_length];exact this) | (rw [csL_length];exact this))
         refine oper_append_run _ _ _ _ hr rfl rfl rfl rfl ?_
         refine hK.out _ _ (hu.kid1 (a:=(a:Int)) (s:=s) (by simp)) (fun hH20=>?_)
         clear hK K hr hH19
         have HU20:=Hd hu
         clear hu
         (try simp only [aP])
         refine wpAnyH_take (i:=9) (oi:=_) (v:=?vb21_9) rfl (by kernel_rfl) (by kernel_rfl) (by kernel_rfl) (fun _ _ _ h=>h) (Or.inl ⟨by kernel_rfl,?hyb21_9⟩) hH20 ?restb21_9
         case hyb21_9=>intro w hSw;(try dsimp only at hSw);go_simp;(try with_reducible rfl)
         (try simp only [aP])
         refine wpAnyH_take (i:=10) (oi:=_) (v:=?vb22_10) rfl (by kernel_rfl) (by kernel_rfl) (by kernel_rfl) (fun _ _ _ h=>h) (Or.inl ⟨by kernel_rfl,?hyb22_10⟩) hH20 ?restb22_10
         case hyb22_10=>intro w hSw;(try dsimp only at hSw);go_simp;(try with_reducible rfl)
         (try simp only [aP])
         refine wpAnyH_done (by kernel_rfl) ?_ _
         refine NoPanic.normal ?_
         have HX:=Hd (HFIN.out _ _ _ _ HU20.out)
         go_wp2_with fail
         case roundEnd=>exact ⟨HX.out,HMS.out⟩
    | cons x r =>
     obtain ⟨o,c⟩:=x
     obtain ⟨bo,bl,co2,cl2,rfl,rfl,hco2,hcl2,c1,c2,z2,hne⟩:=HW3.out.topc
     have hrl:r.length+1≤i:=hst2
     have hr0:(0:Int)≤(r.length:Int):=by omega
     have hln0:(0:Int)<(r.length:Int)+1:=by omega
     have hwl:IntKind.i64.wrap ((r.length:Int)+1-1)=(r.length:Int):=by rw [IntKind.wrap_i64];omega
     have hrlt:(r.length:Int)<(r.length:Int)+1:=by omega
     have hrc:(r.length:Int)<(co2:Int):=by omega
     have hrc':(r.length:Int)≤(co2:Int):=by omega
     have hrd:(r.length:Int)<(cl2:Int):=by omega
     have hrd':(r.length:Int)≤(cl2:Int):=by omega
     simp only [List.length_cons] at *
     by_cases hc:c=0
     ·subst hc
      have HNX:RowKit.Hid (∀ k,upIn l B B w (E.set i (-1)) i gp (a:Int) kd s (.slice (some ⟨bo,0,none⟩) r.length co2) (.slice (some ⟨bl,0,none⟩) r.length cl2) (wr.drewN k)):=Hd fun k=>⟨r,HI2.out.pop,by omega,HW3.out.popc.drewN k⟩
      have HMS2:RowKit.Hid (r.length<r.length+1):=Hd (by omega)
      go_wp2_with fail
      go_quiet (fail)
      go_wp2_with fail
      case roundEnd=>exact ⟨HNX.out _,HMS2.out⟩
     ·have hcb:=(HI2.out.cbound HWL.out)
      have hwc:IntKind.i64.wrap (c-1)=c-1:=by rw [IntKind.wrap_i64];omega
      have hcz:(c == 0)=false:=by rw [beq_eq_false_iff_ne];exact hc
      have htop:=HI2.out.top HWL.out hc
      have HW4:=Hd (HW3.out.put i (o:Int))
      have HW5:=Hd (HW4.out.lessc (c-1))
      have hx1:=HW3.out.outc i (by rw [List.length_set,HEL.out];exact hlt)
      obtain ⟨e1,e2⟩:=hx1
      have f2:(wr.setCell ⟨B,i,none⟩ (.int .i64 (o:Int))).cell? ⟨bl,r.length,none⟩=some (.int .i64 c):=by
       rw [Tcell_setCell_ne (by exact hne)];exact c2
      have f3:(wr.setCell ⟨B,i,none⟩ (.int .i64 (o:Int))).frozen? ⟨bl,r.length,none⟩=false:=by
       obtain ⟨bo',bl',co',cl',q1,q2,_,_,_,_,q3,_⟩:=HW4.out.topc
       simp only [Value.slice.injEq,Option.some.injEq,Addr.mk.injEq,and_true,true_and] at q2
       rw [q2.1];exact q3
      have HFIN:RowKit.Hid (∀ vo' vl' L w',UpW B B w ((E.set i (-1)).set i (o:Int)) (osL ((o,c-1)::r)++[(i:Int)]) (csL ((o,c-1)::r)++[kd]) vo' vl' L w'→upRel l B B w vo' vl' (.int .i64 ((i:Int)+1)) w'):=Hd fun vo' vl' L w' h=>by
       refine ⟨i+1,(i,kd)::(o,c-1)::r,(E.set i (-1)).set i (o:Int),by push_cast;rfl,by omega,?_,by simp only [List.length_cons];omega,by rw [List.length_set,List.length_set];exact HEL.out,fun j hj=>?_,by rw [osL_cons i,csL_cons i];exact h.less_known⟩
       ·have:=HI2.out.push HWL.out hc hlt
        rw [← HP.out] at this
        exact this
       ·rw [List.set_set,List.getD_eq_getElem?_getD,List.getElem?_set]
        by_cases e:i=j
        ·subst e
         rw [if_pos rfl,if_pos (by rw [HEL.out];exact hlt)]
         exact htop.1.symm
        ·rw [if_neg e,← List.getD_eq_getElem?_getD];exact HEQ.out j (by omega)
      have HLO:RowKit.Hid (((o,c-1)::r).length≤1000000000):=Hd (by simp only [List.length_cons];omega)
      clear htop
      go_wp2_with fail
      clear c1 c2 z2 e1 e2 f2 f3
      generalize (World.setCell (World.setCell _ _ _) _ _)=W5 at *
      refine wp_region_noPanic ?_
      refine wp_region_held_drew (S:=fun W'=>W'.cell? ⟨gp,1,none⟩=some (.int .i64 kd)) (by kernel_rfl) (HW5.out.drew.kid1 (List.mem_cons_self ..)) (fun hHeld=>?_)
      have HD:=Hd HW5.out.drew
      generalize W5.drew=wd at *
      refine wpAnyH_take (i:=0) (oi:=_) (v:=?vc1_0) rfl (by kernel_rfl) (by kernel_rfl) (by kernel_rfl) (fun _ _ _ h=>h) (Or.inl ⟨by kernel_rfl,?hyc1_0⟩) hHeld ?restc1_0
      case hyc1_0=>intro w hSw;(try dsimp only at hSw);go_simp;(try with_reducible rfl)
      (try simp only [aP])
      refine wpAnyH_take (i:=1) (oi:=_) (v:=?vc2_1) rfl (by kernel_rfl) (by kernel_rfl) (by kernel_rfl) (fun _ _ _ h=>h) (Or.inl ⟨by kernel_rfl,?hyc2_1⟩) hHeld ?restc2_1
      case hyc2_1=>intro w hSw;(try dsimp only at hSw);go_simp;(try with_reducible rfl)
      (try simp only [aP])
      refine wpAnyH_take (i:=4) (oi:=_) (v:=?vc3_4) rfl (by kernel_rfl) (by kernel_rfl) (by kernel_rfl) (fun _ _ _ h=>h) (Or.inl ⟨by kernel_rfl,?hyc3_4⟩) hHeld ?restc3_4
      case hyc3_4=>intro w hSw;(try dsimp only at hSw);go_simp;(try with_reducible rfl)
      (try simp only [aP])
      refine wpAnyH_take (i:=5) (oi:=_) (v:=?vc4_5) rfl (by kernel_rfl) (by kernel_rfl) (by kernel_rfl) (fun _ _ _ h=>h) (Or.inl ⟨by kernel_rfl,?hyc4_5⟩) hHeld ?restc4_5
      case hyc4_5=>intro w hSw;(try dsimp only at hSw);go_simp;(try with_reducible rfl)
      (try simp only [aP])
      refine wpAnyH_take (i:=6) (oi:=_) (v:=?vc5_6) rfl (by kernel_rfl) (by kernel_rfl) (by kernel_rfl) (fun _ _ _ h=>h) (Or.inl ⟨by kernel_rfl,?hyc5_6⟩) hHeld ?restc5_6
      case hyc5_6=>intro w hSw;(try dsimp only at hSw);go_simp;(try with_reducible rfl)
      (try simp only [aP])
      refine wpAnyH_ready (rs:=[2,7]) (by kernel_rfl) (by simp) ?_
      refine AllReadyH.cons (o:=_) rfl (fun K hK=>?ac5_2) (AllReadyH.cons (o:=_) rfl (fun K hK=>?ac5_7) AllReadyH.nil)
      case ac5_2 =>
       go_simp
       have hu:=HD.out.build (litB (i:Int))
       refine hK.out _ (wd.alloc (litB (i:Int))) (hu.kid1 (a:=(a:Int)) (s:=s) (by simp)) (fun hH6=>?_)
       clear hK K hHeld
       have HU6:=Hd hu
       clear hu
       generalize wd.alloc (litB (i:Int))=x6 at *
       generalize wd.heap.size=k6 at *
       (try simp only [aP])
       refine wpAnyH_ready (rs:=[3,7]) (by kernel_rfl) (by simp) ?_
       refine AllReadyH.cons (o:=_) rfl (fun K hK=>?ac6_3) (AllReadyH.cons (o:=_) rfl (fun K hK=>?ac6_7) AllReadyH.nil)
       case ac6_3 =>
        rw [if_pos (by kernel_rfl)]
        obtain ⟨v7,x7,hr,hu⟩:=HU6.out.appO k6 (i:Int) (by simp) (by have:=HLO.out;first | (rw [osL_length];exact this) | (rw [csL_length];exact this))
        refine oper_append_run _ _ _ _ hr rfl rfl rfl rfl ?_
        refine hK.out _ _ (hu.kid1 (a:=(a:Int)) (s:=s) (by simp)) (fun hH7=>?_)
        clear hK K hr hH6
        have HU7:=Hd hu
        clear hu
        (try simp only [aP])
        refine wpAnyH_ready (rs:=[7]) (by kernel_rfl) (by simp) ?_
        refine AllReadyH.cons (o:=_) rfl (fun K hK=>?ac7_7) AllReadyH.nil
        case ac7_7 =>
         go_simp
         have hu:=HU7.out.build (litB kd)
         refine hK.out _ (x7.alloc (litB kd)) (hu.kid1 (a:=(a:Int)) (s:=s) (by simp)) (fun hH8=>?_)
         clear hK K hH7
         have HU8:=Hd hu
         clear hu
         generalize x7.alloc (litB kd)=x8 at *
         generalize x7.heap.size=k8 at *
         (try simp only [aP])
         refine wpAnyH_ready (rs:=[8]) (by kernel_rfl) (by simp) ?_
         refine AllReadyH.cons (o:=_) rfl (fun K hK=>?ac8_8) AllReadyH.nil
         case ac8_8 =>
          rw [if_pos (by kernel_rfl)]
          obtain ⟨v9,x9,hr,hu⟩:=HU8.out.appL k8 kd (by simp) (by have:=HLO.out;first | (rw [osL_length];exact this) | (rw [csL_length];exact this))
          refine oper_append_run _ _ _ _ hr rfl rfl rfl rfl ?_
          refine hK.out _ _ (hu.kid1 (a:=(a:Int)) (s:=s) (by simp)) (fun hH9=>?_)
          clear hK K hr hH8
          have HU9:=Hd hu
          clear hu
          (try simp only [aP])
          refine wpAnyH_take (i:=9) (oi:=_) (v:=?vc10_9) rfl (by kernel_rfl) (by kernel_rfl) (by kernel_rfl) (fun _ _ _ h=>h) (Or.inl ⟨by kernel_rfl,?hyc10_9⟩) hH9 ?restc10_9
          case hyc10_9=>intro w hSw;(try dsimp only at hSw);go_simp;(try with_reducible rfl)
          (try simp only [aP])
          refine wpAnyH_take (i:=10) (oi:=_) (v:=?vc11_10) rfl (by kernel_rfl) (by kernel_rfl) (by kernel_rfl) (fun _ _ _ h=>h) (Or.inl ⟨by kernel_rfl,?hyc11_10⟩) hH9 ?restc11_10
          case hyc11_10=>intro w hSw;(try dsimp only at hSw);go_simp;(try with_reducible rfl)
          (try simp only [aP])
          refine wpAnyH_done (by kernel_rfl) ?_ _
          refine NoPanic.normal ?_
          have HX:=Hd (HFIN.out _ _ _ _ HU9.out)
          go_wp2_with fail
          case roundEnd=>exact ⟨HX.out,HMS.out⟩
       case ac6_7 =>
        go_simp
        have hu:=HU6.out.build (litB kd)
        refine hK.out _ (x6.alloc (litB kd)) (hu.kid1 (a:=(a:Int)) (s:=s) (by simp)) (fun hH12=>?_)
        clear hK K hH6
        have HU12:=Hd hu
        clear hu
        generalize x6.alloc (litB kd)=x12 at *
        generalize x6.heap.size=k12 at *
        (try simp only [aP])
        refine wpAnyH_ready (rs:=[3]) (by kernel_rfl) (by simp) ?_
        refine AllReadyH.cons (o:=_) rfl (fun K hK=>?ac12_3) AllReadyH.nil
        case ac12_3 =>
         rw [if_pos (by kernel_rfl)]
         obtain ⟨v13,x13,hr,hu⟩:=HU12.out.appO k6 (i:Int) (by simp) (by have:=HLO.out;first | (rw [osL_length];exact this) | (rw [csL_length];exact this))
         refine oper_append_run _ _ _ _ hr rfl rfl rfl rfl ?_
         refine hK.out _ _ (hu.kid1 (a:=(a:Int)) (s:=s) (by simp)) (fun hH13=>?_)
         clear hK K hr hH12
         have HU13:=Hd hu
         clear hu
         (try simp only [aP])
         refine wpAnyH_ready (rs:=[8]) (by kernel_rfl) (by simp) ?_
         refine AllReadyH.cons (o:=_) rfl (fun K hK=>?ac13_8) AllReadyH.nil
         case ac13_8 =>
          rw [if_pos (by kernel_rfl)]
          obtain ⟨v14,x14,hr,hu⟩:=HU13.out.appL k12 kd (by simp) (by have:=HLO.out;first | (rw [osL_length];exact this) | (rw [csL_length];exact this))
          refine oper_append_run _ _ _ _ hr rfl rfl rfl rfl ?_
          refine hK.out _ _ (hu.kid1 (a:=(a:Int)) (s:=s) (by simp)) (fun hH14=>?_)
          clear hK K hr hH13
          have HU14:=Hd hu
          clear hu
          (try simp only [aP])
          refine wpAnyH_take (i:=9) (oi:=_) (v:=?vc15_9) rfl (by kernel_rfl) (by kernel_rfl) (by kernel_rfl) (fun _ _ _ h=>h) (Or.inl ⟨by kernel_rfl,?hyc15_9⟩) hH14 ?restc15_9
          case hyc15_9=>intro w hSw;(try dsimp only at hSw);go_simp;(try with_reducible rfl)
          (try simp only [aP])
          refine wpAnyH_take (i:=10) (oi:=_) (v:=?vc16_10) rfl (by kernel_rfl) (by kernel_rfl) (by kernel_rfl) (fun _ _ _ h=>h) (Or.inl ⟨by kernel_rfl,?hyc16_10⟩) hH14 ?restc16_10
          case hyc16_10=>intro w hSw;(try dsimp only at hSw);go_simp;(try with_reducible rfl)
          (try simp only [aP])
          refine wpAnyH_done (by kernel_rfl) ?_ _
          refine NoPanic.normal ?_
          have HX:=Hd (HFIN.out _ _ _ _ HU14.out)
          go_wp2_with fail
          case roundEnd=>exact ⟨HX.out,HMS.out⟩
      case ac5_7 =>
       go_simp
       have hu:=HD.out.build (litB kd)
       refine hK.out _ (wd.alloc (litB kd)) (hu.kid1 (a:=(a:Int)) (s:=s) (by simp)) (fun hH17=>?_)
       clear hK K hHeld
       have HU17:=Hd hu
       clear hu
       generalize wd.alloc (litB kd)=x17 at *
       generalize wd.heap.size=k17 at *
       (try simp only [aP])
       refine wpAnyH_ready (rs:=[2]) (by kernel_rfl) (by simp) ?_
       refine AllReadyH.cons (o:=_) rfl (fun K hK=>?ac17_2) AllReadyH.nil
       case ac17_2 =>
        go_simp
        have hu:=HU17.out.build (litB (i:Int))
        refine hK.out _ (x17.alloc (litB (i:Int))) (hu.kid1 (a:=(a:Int)) (s:=s) (by simp)) (fun hH18=>?_)
        clear hK K hH17
        have HU18:=Hd hu
        clear hu
        generalize x17.alloc (litB (i:Int))=x18 at *
        generalize x17.heap.size=k18 at *
        (try simp only [aP])
        refine wpAnyH_ready (rs:=[3]) (by kernel_rfl) (by simp) ?_
        refine AllReadyH.cons (o:=_) rfl (fun K hK=>?ac18_3) AllReadyH.nil
        case ac18_3 =>
         rw [if_pos (by kernel_rfl)]
         obtain ⟨v19,x19,hr,hu⟩:=HU18.out.appO k18 (i:Int) (by simp) (by have:=HLO.out;first | (rw [osL_length];exact this) | (rw [csL_length];exact this))
         refine oper_append_run _ _ _ _ hr rfl rfl rfl rfl ?_
         refine hK.out _ _ (hu.kid1 (a:=(a:Int)) (s:=s) (by simp)) (fun hH19=>?_)
         clear hK K hr hH18
         have HU19:=Hd hu
         clear hu
         (try simp only [aP])
         refine wpAnyH_ready (rs:=[8]) (by kernel_rfl) (by simp) ?_
         refine AllReadyH.cons (o:=_) rfl (fun K hK=>?ac19_8) AllReadyH.nil
         case ac19_8 =>
          rw [if_pos (by kernel_rfl)]
          obtain ⟨v20,x20,hr,hu⟩:=HU19.out.appL k17 kd (by simp) (by have:=HLO.out;first | (rw [osL_length];exact this) | (rw [csL_length];exact this))
          refine oper_append_run _ _ _ _ hr rfl rfl rfl rfl ?_
          refine hK.out _ _ (hu.kid1 (a:=(a:Int)) (s:=s) (by simp)) (fun hH20=>?_)
          clear hK K hr hH19
          have HU20:=Hd hu
          clear hu
          (try simp only [aP])
          refine wpAnyH_take (i:=9) (oi:=_) (v:=?vc21_9) rfl (by kernel_rfl) (by kernel_rfl) (by kernel_rfl) (fun _ _ _ h=>h) (Or.inl ⟨by kernel_rfl,?hyc21_9⟩) hH20 ?restc21_9
          case hyc21_9=>intro w hSw;(try dsimp only at hSw);go_simp;(try with_reducible rfl)
          (try simp only [aP])
          refine wpAnyH_take (i:=10) (oi:=_) (v:=?vc22_10) rfl (by kernel_rfl) (by kernel_rfl) (by kernel_rfl) (fun _ _ _ h=>h) (Or.inl ⟨by kernel_rfl,?hyc22_10⟩) hH20 ?restc22_10
          case hyc22_10=>intro w hSw;(try dsimp only at hSw);go_simp;(try with_reducible rfl)
          (try simp only [aP])
          refine wpAnyH_done (by kernel_rfl) ?_ _
          refine NoPanic.normal ?_
          have HX:=Hd (HFIN.out _ _ _ _ HU20.out)
          go_wp2_with fail
          case roundEnd=>exact ⟨HX.out,HMS.out⟩
  ·have hkl:i=l.length:=by omega
   subst hkl
   have hEE:E=upsL l:=by
    apply List.ext_getElem (by rw [HEL.out,upsL_length])
    intro j h1 h2
    have h3:=HEQ.out j (by have:=HEL.out;omega)
    rw [List.getD_eq_getElem?_getD,List.getElem?_eq_getElem h1] at h3
    simp only [Option.getD_some] at h3
    rw [h3,upsL_get]
   subst hEE
   have HX:=Hd (HQ.out (.slice (some ⟨B,0,none⟩) l.length l.length) wr HW.out.below (up_row_ints HW.out.out (upsL_length l).symm))
   have hnl:¬ (l.length:Int)<l.length:=by omega
   go_wp2_with fail
   exact HX.out
end Go.Proofs.YtmklemelgdilkaaGreatDoor
