/- Layer 20: fill.right, walked (printed by tools/genright.py). -/
import Derived.Test.YtfalelkfhandfaaGreatDoorPackMs
import Derived.Test.YtfalelkfhandfaaGreatDoorTreesFMs
import Derived.Test.YtfalelkfhandfaaGreatDoorStepPMs
import Derived.Test.YtfalelkfhandfaaGreatDoorMapSMs
import Derived.Test.YtfalelkfhandfaaGreatDoorStillMs
import Derived.Deep.RegionHeld3
import Derived.Test.YtfalelkfhandfaaGreatDoorCheckBMs
import Derived.BigQuiet
import Derived.Deep.QuietTactic
import Derived.Test.YtfalelkfhandfaaGreatDoorRefHoleMs
import Derived.Test.YtfalelkfhandfaaGreatDoorRuleVMs
import Derived.Test.YtfalelkfhandfaaGreatDoorTermMs
namespace Go.Proofs.YtfalelkfhandfaaGreatDoor
set_option maxRecDepth 100000
set_option maxHeartbeats 32000000
set_option linter.all false
attribute [local irreducible] Calls
attribute [local irreducible] wpStill
open Go.RowKit

def BdK (W:World) (g:Nat) (b:Bnd):Prop:=W.heap[g]?=some (.cells #[.string b.1,.int .i64 b.2.1,.int .i64 b.2.2] 52 (0,0))
theorem BdK.cells {W:World} {g:Nat} {b:Bnd} (h:BdK W g b):W.cell? ⟨g,0,none⟩=some (.string b.1)∧W.cell? ⟨g,1,none⟩=some (.int .i64 b.2.1)∧W.cell? ⟨g,2,none⟩=some (.int .i64 b.2.2):=by
 unfold BdK at h
 simp [World.cell?,h]
theorem BdK.keep {W W':World} {g:Nat} {b:Bnd} (h:BdK W g b) (hb:Below W.heap.size W W'):BdK W' g b:=keeps hb h
def HoK (W:World) (g:Nat) (x:Hl):Prop:=W.heap[g]?=some (.cells #[.string x.1,.int .u8 (x.2:Int)] 49 (0,0))
theorem HoK.cells {W:World} {g:Nat} {x:Hl} (h:HoK W g x):W.cell? ⟨g,0,none⟩=some (.string x.1)∧W.cell? ⟨g,1,none⟩=some (.int .u8 (x.2:Int)):=by
 unfold HoK at h
 simp [World.cell?,h]
theorem HoK.keep {W W':World} {g:Nat} {x:Hl} (h:HoK W g x) (hb:Below W.heap.size W W'):HoK W' g x:=keeps hb h
theorem zCg {x y:ByteArray}:(x.toList == y.toList)=decide (x=y):=by
 by_cases h:x=y
 ·subst h;simp
 ·rw [decide_eq_false h,beq_eq_false_iff_ne];exact yG h
def rtRel (r:RuleM) (l:List Prt) (bs:List Bnd) (w1:World) (nv:Value) (wr:World):Prop:=∃ n:Nat,nv=.int .i64 (n:Int)∧n≤bs.length∧RightTo r l bs n∧Below w1.heap.size w1 wr
theorem zRc (r:RuleM) (hk:∀ h∈r.holes,1≤h.2∧h.2≤7) (hhl:r.holes.length≤1048576) (vh vf vb:Value) (l:List Prt) (hl:SmallL l) (us:List Nat) (hus:zG l=some us) (vl ve vq:Value) (bs:List Bnd) (hbl:bs.length≤1048576) (w:World) (hin:RuleIn w r vh vf vb) (hlr:zD w vl l) (her:zI w ve .i64 (endsL l)) (hrb:BindRow w vq bs) :
  Calls Tryz.prog 20 #[ruleAgg r vh vf vb,vl,ve,vq] w fun e w'=>e=.returned (.bool (rightB r l bs))∧Below w.heap.size w w':=by
 have HQ:Hid (∀ x w',rightB r l bs=x→Below w.heap.size w w'→(fun (e:Ending) w'=>e=.returned (.bool (rightB r l bs))∧Below w.heap.size w w') (.returned (.bool x)) w'):=Hd fun x w' h hb=>⟨by rw [h],hb⟩
 generalize (fun (e:Ending) w'=>e=.returned (.bool (rightB r l bs))∧Below w.heap.size w w')=Q at *
 obtain ⟨ah,ch,rfl,hch⟩:=Row.shape hin.H
 obtain ⟨af,cf,rfl,hcf⟩:=hin.F.slice
 obtain ⟨ab,cb,rfl,hcb⟩:=hin.B.slice
 obtain ⟨al,cl,rfl,hcl⟩:=hlr.slice
 obtain ⟨aq,cq,rfl,hcq⟩:=Row.shape hrb
 have HIN:=Hd hin
 have HLR:=Hd hlr
 have HER:=Hd her
 have HRB:=Hd hrb
 have HK:=Hd hk
 have HL:=Hd hl
 have HU:=Hd hus
 have hll:=hl.1
 have HR1:Hid (RK (w.alloc (.cells #[.string r.nm,.int .u8 (r.goal:Int),.slice ah r.holes.length ch,.slice af r.fnd.length cf,.slice ab r.by'.length cb] 36)) w.heap.size r.nm r.goal (.slice ah r.holes.length ch) (.slice af r.fnd.length cf) (.slice ab r.by'.length cb)):=Hd (heap_alloc_new _ _)
 have HB1:Hid (Below w.heap.size w (w.alloc (.cells #[.string r.nm,.int .u8 (r.goal:Int),.slice ah r.holes.length ch,.slice af r.fnd.length cf,.slice ab r.by'.length cb] 36))):=Hd ((Below.refl _ _).alloc (Nat.le_refl _) _)
 clear hin hlr her hrb hk hl hus
 unfold ruleAgg
 go_enter Tryz.func20,Tryz.ntmps20
 go_upto_region 1 with (fail)
 generalize w.alloc (.cells #[.string r.nm,.int .u8 (r.goal:Int),.slice ah r.holes.length ch,.slice af r.fnd.length cf,.slice ab r.by'.length cb] 36)=W1 at *
 obtain ⟨e0,e1,e2,e3,e4⟩:=HR1.out.cells
 by_cases hn:bs.length=r.holes.length
 case neg =>
  have g1:((bs.length:Int) != (r.holes.length:Int))=true:=by rw [bne_iff_ne];omega
  have g2:(bs.length != r.holes.length)=true:=by rw [bne_iff_ne];exact hn
  have HX:=Hd (HQ.out false W1 (zKp hn) HB1.out)
  clear hn
  go_wp2_with fail
  exact HX.out
 have HN:=Hd hn
 have g1:((bs.length:Int) != (r.holes.length:Int))=false:=by rw [bne_eq_false_iff_eq];omega
 have g2:(bs.length != r.holes.length)=false:=by rw [bne_eq_false_iff_eq];exact hn
 clear hn
 go_wp2_with fail
 clear g1 g2 e0 e1 e2 e3 e4
 go_loopw [22] (fun nv wr=>rtRel r l bs W1 nv wr) (fun nv _=>bs.length-(intOf nv).toNat)
 case atStart=>exact ⟨0,rfl,Nat.zero_le _,fun i hh hb hi=>absurd hi (Nat.not_lt_zero _),Below.refl _ _⟩
 case round =>
  obtain ⟨n,rfl,hn,hrt,hb⟩:=hrel
  have HB:=Hd hb
  have HRT:=Hd hrt
  clear hb hrt
  by_cases hlt:n<bs.length
  case neg =>
   obtain rfl:n=bs.length:=by omega
   have HX:=Hd (HQ.out true wr (zKq HN.out HRT.out) (zB HB1.out HB.out))
   go_wp2_with fail
   exact HX.out
  have hnh:n<r.holes.length:=by have:=HN.out;omega
  have HNO:Hid (∀ w',okB l r.holes[n] bs[n]=false→Below w.heap.size w w'→Q (.returned (.bool false)) w'):=Hd fun w' h hb=>HQ.out false w' (zPb hnh hlt h) hb
  have HYE:Hid (∀ w',okB l r.holes[n] bs[n]=true→Below W1.heap.size W1 w'→rtRel r l bs W1 (.int .i64 ((n:Int)+1)) w'):=Hd fun w' h hb=>⟨n+1,by push_cast;rfl,hlt,HRT.out.next (fun _ _=>h),hb⟩
  have hkk:=HK.out _ (List.getElem_mem hnh)
  obtain ⟨qb,qo,rfl,y1,y2,y3,hqc⟩:=HRB.out.at (zB HB1.out HB.out) (show 0<bs.length by omega)
  clear y1 y2 y3
  obtain ⟨d0,d1,d2⟩:=hqc n hlt
  clear hqc
  have HBD:Hid (BdK (wr.alloc (.cells #[.string (bs[n]).1,.int .i64 (bs[n]).2.1,.int .i64 (bs[n]).2.2] 52)) wr.heap.size bs[n]):=Hd (heap_alloc_new _ _)
  have HB2:Hid (Below wr.heap.size wr (wr.alloc (.cells #[.string (bs[n]).1,.int .i64 (bs[n]).2.1,.int .i64 (bs[n]).2.2] 52))):=Hd ((Below.refl _ _).alloc (Nat.le_refl _) _)
  have hn0:(0:Int)≤(n:Int):=by omega
  have hnl:(n:Int)<bs.length:=by omega
  have hnc:(n:Int)<cq:=by omega
  have hnl2:(n:Int)<r.holes.length:=by omega
  have hnc2:(n:Int)<ch:=by omega
  generalize bs[n]=bb at *
  obtain ⟨bn,bf,bt⟩:=bb
  simp only [] at d0 d1 d2 HBD HB2
  go_upto_region 6 with (fail)
  clear d0 d1 d2
  generalize wr.alloc (.cells #[.string bn,.int .i64 bf,.int .i64 bt] 52)=W2 at *
  have HB12:=Hd (zB HB.out HB2.out)
  have HBP:=Hd (fun (W':World) (hb:Below W2.heap.size W2 W')=>HBD.out.keep hb)
  clear HB2 HBD
  generalize wr.heap.size=gb at *
  obtain ⟨e0,e1,e2,e3,e4⟩:=(HR1.out.below HB12.out).cells
  obtain ⟨kb,ko,rfl,y1,y2,y3,hkc⟩:=HIN.out.H.at (zB HB1.out HB12.out) (show 0<r.holes.length by omega)
  clear y1 y2 y3
  obtain ⟨k0,k1⟩:=hkc n hnh
  clear hkc
  have HHO:Hid (HoK (W2.alloc (.cells #[.string (r.holes[n]).1,.int .u8 ((r.holes[n]).2:Int)] 49)) W2.heap.size r.holes[n]):=Hd (heap_alloc_new _ _)
  have HB3:Hid (Below W2.heap.size W2 (W2.alloc (.cells #[.string (r.holes[n]).1,.int .u8 ((r.holes[n]).2:Int)] 49))):=Hd ((Below.refl _ _).alloc (Nat.le_refl _) _)
  generalize r.holes[n]=hh at *
  obtain ⟨hn,hk⟩:=hh
  simp only [] at k0 k1 HHO HB3 hkk
  go_upto_region 7 with (fail)
  clear e0 e1 e2 e3 e4 k0 k1
  generalize W2.alloc (.cells #[.string hn,.int .u8 (hk:Int)] 49)=W4 at *
  have HB4:=Hd (zB HB12.out HB3.out)
  have HB4w:=Hd (zB HB1.out HB4.out)
  have HHW:=Hd (fun (W':World) (hb:Below W4.heap.size W4 W')=>(HHO.out.keep hb).cells)
  have HBW:=Hd (fun (W':World) (hb:Below W4.heap.size W4 W')=>(HBP.out W' (zB HB3.out hb)).cells)
  clear HB3 HHO HBP HB12
  generalize W2.heap.size=gh at *
  obtain ⟨k0,k1⟩:=HHW.out W4 (Below.refl _ _)
  obtain ⟨b0,b1,b2⟩:=HBW.out W4 (Below.refl _ _)
  simp only [] at k0 k1 b0 b1 b2
  have gq:(bn.toList == hn.toList)=decide (bn=hn):=zCg
  by_cases hne:bn=hn
  case neg =>
   have HX:=Hd (HNO.out W4 (zPc hne) HB4w.out)
   rw [decide_eq_false hne] at gq
   have gq2:(bn.toList != hn.toList)=true:=by simp [bne,gq]
   clear hne
   go_wp2_with fail
   exact HX.out
  rw [decide_eq_true hne] at gq
  have gq2:(bn.toList != hn.toList)=false:=by simp [bne,gq]
  have HNE:=Hd hne
  clear hne
  by_cases f1:bf<0
  case pos =>
   have HX:=Hd (HNO.out W4 (zCf (fun h=>by have:=h.1;simp only [] at this;omega)) HB4w.out)
   go_wp2_with fail
   exact HX.out
  obtain ⟨a,rfl⟩:∃ a:Nat,bf=(a:Int):=⟨bf.toNat,by omega⟩
  by_cases f2:bt<(a:Int)
  case pos =>
   have HX:=Hd (HNO.out W4 (zCf (fun h=>by have:=h.2.1;simp only [] at this;omega)) HB4w.out)
   go_wp2_with fail
   exact HX.out
  obtain ⟨b,rfl⟩:∃ b:Nat,bt=(b:Int):=⟨bt.toNat,by omega⟩
  by_cases f3:(l.length:Int)<(b:Int)
  case pos =>
   have HX:=Hd (HNO.out W4 (zCf (fun h=>by have:=h.2.2;simp only [] at this;omega)) HB4w.out)
   go_wp2_with fail
   exact HX.out
  have hab:a≤b:=by omega
  have hbl:b≤l.length:=by omega
  have CT:=Hd (zGq l (by omega) us HU.out ve a b hab hbl W4 (HER.out.below HB4w.out))
  go_upto_region 9 with (fail)
  go_wp2_with fail
  refine CT.out.mono ?_
  rintro e w5 ⟨⟨k,x,hkl,rfl,h1,h2⟩,rfl⟩
  clear CT f1 f2 f3 gq gq2
  have hpa:((a:Int)).toNat=a:=by omega
  have hpb:((b:Int)).toNat=b:=by omega
  have HS0:Hid (∀ W,Below W4.heap.size W4 W→(fun W=>W.cell? ⟨gh,0,none⟩=some (.string hn)∧W.cell? ⟨gh,1,none⟩=some (.int .u8 (hk:Int))∧W.cell? ⟨gb,1,none⟩=some (.int .i64 (a:Int))∧Hid (Below W4.heap.size W4 W)) W):=Hd fun W hb=>⟨(HHW.out W hb).1,(HHW.out W hb).2,(HBW.out W hb).2.1,Hd hb⟩
  have CS:=Hd (fun W=>zLe hn hk W)
  have HHK:=Hd hkk
  clear b0 b1 b2 k0 k1 hkk
  cases x with
  | false =>
   have h2:=h2 rfl
   have HX:=Hd (HNO.out W4.drew (zKr (by simp only [hpa,hpb];omega)) (zB HB4w.out (Below.refl _ _).drew))
   clear h1 h2
   go_upto_region 10 with (fail)
   refine wp_region_noPanic ?_
   refine wp_region_held_drew (S:=(fun W=>W.cell? ⟨gh,0,none⟩=some (.string hn)∧W.cell? ⟨gh,1,none⟩=some (.int .u8 (hk:Int))∧W.cell? ⟨gb,1,none⟩=some (.int .i64 (a:Int))∧Hid (Below W4.heap.size W4 W))) (by kernel_rfl) (HS0.out _ (Below.refl _ _).drew) (fun hHeldA=>?_)
   refine tkH 0 65 ?vA0 rfl ?hyA0 hHeldA ?restA0
   case hyA0=>intro w q;(try dsimp only at q);go_simp;(try with_reducible rfl)
   (try simp only [aP])
   refine tkH 1 66 ?vA1 rfl ?hyA1 hHeldA ?restA1
   case hyA1=>intro w q;(try dsimp only at q);go_simp;(try with_reducible rfl)
   (try simp only [aP])
   refine tkH 2 67 ?vA2 rfl ?hyA2 hHeldA ?restA2
   case hyA2=>intro w q;(try dsimp only at q);go_simp;(try with_reducible rfl)
   (try simp only [aP])
   refine skH 3 68 rfl hHeldA ?_
   refine wpAnyH_ready (rs:=[4]) (by kernel_rfl) (by simp) ?_
   refine AllReadyH.cons (o:=⟨some 69,_,_,_,_,_⟩) rfl (fun K hK=>?_) AllReadyH.nil
   rw [if_neg]
   rotate_left
   ·exact fun h=>Bool.noConfusion (h.symm.trans (by kernel_rfl:_=false))
   refine hK.out _ _ hHeldA (fun hHeldA_1=>?_)
   clear hK K hHeldA
   (try simp only [aP])
   refine skH 5 70 rfl hHeldA_1 ?_
   refine skH 6 71 rfl hHeldA_1 ?_
   refine skH 7 72 rfl hHeldA_1 ?_
   refine skH 8 73 rfl hHeldA_1 ?_
   refine skH 9 74 rfl hHeldA_1 ?_
   refine skH 10 75 rfl hHeldA_1 ?_
   refine skH 11 76 rfl hHeldA_1 ?_
   refine skH 12 77 rfl hHeldA_1 ?_
   refine skH 13 78 rfl hHeldA_1 ?_
   refine skH 14 79 rfl hHeldA_1 ?_
   refine skH 15 80 rfl hHeldA_1 ?_
   refine skH 16 81 rfl hHeldA_1 ?_
   refine skH 17 82 rfl hHeldA_1 ?_
   refine wpAnyH_ready (rs:=[18]) (by kernel_rfl) (by simp) ?_
   refine AllReadyH.cons (o:=⟨some 83,_,_,_,_,_⟩) rfl (fun K hK=>?_) AllReadyH.nil
   rw [if_neg]
   rotate_left
   ·exact fun h=>Bool.noConfusion (h.symm.trans (by kernel_rfl:_=false))
   refine hK.out _ _ hHeldA_1 (fun hHeldA_2=>?_)
   clear hK K hHeldA_1
   (try simp only [aP])
   refine skH 19 84 rfl hHeldA_2 ?_
   refine skH 20 85 rfl hHeldA_2 ?_
   refine skH 21 86 rfl hHeldA_2 ?_
   refine tkH 22 87 ?vA22 rfl ?hyA22 hHeldA_2 ?restA22
   case hyA22=>intro w q;(try dsimp only at q);go_simp;(try with_reducible rfl)
   (try simp only [aP])
   refine wpAnyH_done (by kernel_rfl) ?_ _
   refine NoPanic.normal ?_
   go_wp2_with fail
   exact HX.out
  | true =>
   have HT:=Hd (h1 rfl)
   clear h1 h2
   cases hsv:isSev hk with
   | true =>
    rw [hsv] at CS
    have HYX:Hid (∀ w',Below W1.heap.size W1 w'→rtRel r l bs W1 (.int .i64 ((n:Int)+1)) w'):=Hd fun w' hb=>HYE.out w' (zGa HNE.out ⟨by simp only [];omega,by simp only [];omega,by simp only [];omega⟩ (by simp only [hpa,hpb];rw [HT.out];omega) (fun h=>by simp only [] at h;rw [hsv] at h;cases h)) hb
    clear hsv
    go_upto_region 10 with (fail)
    refine wp_region_noPanic ?_
    refine wp_region_held_drew (S:=(fun W=>W.cell? ⟨gh,0,none⟩=some (.string hn)∧W.cell? ⟨gh,1,none⟩=some (.int .u8 (hk:Int))∧W.cell? ⟨gb,1,none⟩=some (.int .i64 (a:Int))∧Hid (Below W4.heap.size W4 W))) (by kernel_rfl) (HS0.out _ (Below.refl _ _).drew) (fun hHeldB=>?_)
    refine tkH 0 65 ?vB0 rfl ?hyB0 hHeldB ?restB0
    case hyB0=>intro w q;(try dsimp only at q);go_simp;(try with_reducible rfl)
    (try simp only [aP])
    refine tkH 1 66 ?vB1 rfl ?hyB1 hHeldB ?restB1
    case hyB1=>intro w q;(try dsimp only at q);go_simp;(try with_reducible rfl)
    (try simp only [aP])
    refine tkH 2 67 ?vB2 rfl ?hyB2 hHeldB ?restB2
    case hyB2=>intro w q;(try dsimp only at q);go_simp;(try with_reducible rfl)
    (try simp only [aP])
    refine tkH 3 68 ?vB3 rfl ?hyB3 hHeldB ?restB3
    case hyB3=>intro w q;(try dsimp only at q);go_simp;(try with_reducible rfl)
    (try simp only [aP])
    refine wpAnyH_ready (rs:=[4]) (by kernel_rfl) (by simp) ?_
    refine AllReadyH.cons (o:=_) rfl (fun K hK=>?_) AllReadyH.nil
    go_simp
    go_at_call 37
    refine (CS.out _).mono ?_
    rintro e w5 ⟨rfl,hb5⟩
    have HB5:=Hd ((Below.refl W4.heap.size W4).drew.trans hb5)
    clear hb5
    (try dsimp only)
    refine hK.out _ _ (HS0.out _ HB5.out) (fun hHeldB_1=>?_)
    clear hK K hHeldB
    (try simp only [aP])
    refine tkH 5 70 ?vB5 rfl ?hyB5 hHeldB_1 ?restB5
    case hyB5=>intro w q;(try dsimp only at q);go_simp;(try with_reducible rfl)
    (try simp only [aP])
    refine tkH 6 71 ?vB6 rfl ?hyB6 hHeldB_1 ?restB6
    case hyB6=>intro w q;(try dsimp only at q);go_simp;(try with_reducible rfl)
    (try simp only [aP])
    refine skH 7 72 rfl hHeldB_1 ?_
    refine skH 8 73 rfl hHeldB_1 ?_
    refine skH 9 74 rfl hHeldB_1 ?_
    refine skH 10 75 rfl hHeldB_1 ?_
    refine skH 11 76 rfl hHeldB_1 ?_
    refine skH 12 77 rfl hHeldB_1 ?_
    refine skH 13 78 rfl hHeldB_1 ?_
    refine skH 14 79 rfl hHeldB_1 ?_
    refine skH 15 80 rfl hHeldB_1 ?_
    refine skH 16 81 rfl hHeldB_1 ?_
    refine skH 17 82 rfl hHeldB_1 ?_
    refine wpAnyH_ready (rs:=[18]) (by kernel_rfl) (by simp) ?_
    refine AllReadyH.cons (o:=⟨some 83,_,_,_,_,_⟩) rfl (fun K hK=>?_) AllReadyH.nil
    rw [if_neg]
    rotate_left
    ·exact fun h=>Bool.noConfusion (h.symm.trans (by kernel_rfl:_=false))
    refine hK.out _ _ hHeldB_1 (fun hHeldB_2=>?_)
    clear hK K hHeldB_1
    (try simp only [aP])
    refine skH 19 84 rfl hHeldB_2 ?_
    refine skH 20 85 rfl hHeldB_2 ?_
    refine tkH 21 86 ?vB21 rfl ?hyB21 hHeldB_2 ?restB21
    case hyB21=>intro w q;(try dsimp only at q);go_simp;(try with_reducible rfl)
    (try simp only [aP])
    refine tkH 22 87 ?vB22 rfl ?hyB22 hHeldB_2 ?restB22
    case hyB22=>intro w q;(try dsimp only at q);go_simp;(try with_reducible rfl)
    (try simp only [aP])
    refine wpAnyH_done (by kernel_rfl) ?_ _
    refine NoPanic.normal ?_
    have HX:=Hd (HYX.out w5 (zB HB4.out HB5.out))
    go_wp2_with fail
    exact ⟨HX.out,by simp only [intOf];omega⟩
   | false =>
    rw [hsv] at CS
    by_cases hk1:k=1
    case neg =>
     have HX0:=Hd (fun w' hb=>HNO.out w' (zSc hsv (by simp only [hpa,hpb];rw [HT.out];omega)) hb)
     have q1:((k:Int) != 1)=true:=by rw [bne_iff_ne];omega
     have q2:((k:Int) == 1)=false:=by rw [beq_eq_false_iff_ne];omega
     clear hsv hk1
     go_upto_region 10 with (fail)
     refine wp_region_noPanic ?_
     refine wp_region_held_drew (S:=(fun W=>W.cell? ⟨gh,0,none⟩=some (.string hn)∧W.cell? ⟨gh,1,none⟩=some (.int .u8 (hk:Int))∧W.cell? ⟨gb,1,none⟩=some (.int .i64 (a:Int))∧Hid (Below W4.heap.size W4 W))) (by kernel_rfl) (HS0.out _ (Below.refl _ _).drew) (fun hHeldC=>?_)
     refine tkH 0 65 ?vC0 rfl ?hyC0 hHeldC ?restC0
     case hyC0=>intro w q;(try dsimp only at q);go_simp;(try with_reducible rfl)
     (try simp only [aP])
     refine tkH 1 66 ?vC1 rfl ?hyC1 hHeldC ?restC1
     case hyC1=>intro w q;(try dsimp only at q);go_simp;(try with_reducible rfl)
     (try simp only [aP])
     refine tkH 2 67 ?vC2 rfl ?hyC2 hHeldC ?restC2
     case hyC2=>intro w q;(try dsimp only at q);go_simp;(try with_reducible rfl)
     (try simp only [aP])
     refine tkH 3 68 ?vC3 rfl ?hyC3 hHeldC ?restC3
     case hyC3=>intro w q;(try dsimp only at q);go_simp;(try with_reducible rfl)
     (try simp only [aP])
     refine wpAnyH_ready (rs:=[4]) (by kernel_rfl) (by simp) ?_
     refine AllReadyH.cons (o:=_) rfl (fun K hK=>?_) AllReadyH.nil
     go_simp
     go_at_call 37
     refine (CS.out _).mono ?_
     rintro e w5 ⟨rfl,hb5⟩
     have HB5:=Hd ((Below.refl W4.heap.size W4).drew.trans hb5)
     clear hb5
     (try dsimp only)
     refine hK.out _ _ (HS0.out _ HB5.out) (fun hHeldC_1=>?_)
     clear hK K hHeldC
     (try simp only [aP])
     refine tkH 5 70 ?vC5 rfl ?hyC5 hHeldC_1 ?restC5
     case hyC5=>intro w q;(try dsimp only at q);go_simp;(try with_reducible rfl)
     (try simp only [aP])
     refine tkH 6 71 ?vC6 rfl ?hyC6 hHeldC_1 ?restC6
     case hyC6=>intro w q;(try dsimp only at q);go_simp;(try with_reducible rfl)
     (try simp only [aP])
     refine tkH 7 72 ?vC7 rfl ?hyC7 hHeldC_1 ?restC7
     case hyC7=>intro w q;(try dsimp only at q);go_simp;(try with_reducible rfl)
     (try simp only [aP])
     refine tkH 8 73 ?vC8 rfl ?hyC8 hHeldC_1 ?restC8
     case hyC8=>intro w q;(try dsimp only at q);go_simp;(try with_reducible rfl)
     (try simp only [aP])
     refine tkH 9 74 ?vC9 rfl ?hyC9 hHeldC_1 ?restC9
     case hyC9=>intro w q;(try dsimp only at q);go_simp;(try with_reducible rfl)
     (try simp only [aP])
     refine skH 10 75 rfl hHeldC_1 ?_
     refine skH 11 76 rfl hHeldC_1 ?_
     refine skH 12 77 rfl hHeldC_1 ?_
     refine skH 13 78 rfl hHeldC_1 ?_
     refine skH 14 79 rfl hHeldC_1 ?_
     refine skH 15 80 rfl hHeldC_1 ?_
     refine skH 16 81 rfl hHeldC_1 ?_
     refine skH 17 82 rfl hHeldC_1 ?_
     refine wpAnyH_ready (rs:=[18]) (by kernel_rfl) (by simp) ?_
     refine AllReadyH.cons (o:=⟨some 83,_,_,_,_,_⟩) rfl (fun K hK=>?_) AllReadyH.nil
     rw [if_neg]
     rotate_left
     ·exact fun h=>Bool.noConfusion (h.symm.trans (by kernel_rfl:_=false))
     refine hK.out _ _ hHeldC_1 (fun hHeldC_2=>?_)
     clear hK K hHeldC_1
     (try simp only [aP])
     refine skH 19 84 rfl hHeldC_2 ?_
     refine tkH 20 85 ?vC20 rfl ?hyC20 hHeldC_2 ?restC20
     case hyC20=>intro w q;(try dsimp only at q);go_simp;(try with_reducible rfl)
     (try simp only [aP])
     refine tkH 21 86 ?vC21 rfl ?hyC21 hHeldC_2 ?restC21
     case hyC21=>intro w q;(try dsimp only at q);go_simp;(try with_reducible rfl)
     (try simp only [aP])
     refine tkH 22 87 ?vC22 rfl ?hyC22 hHeldC_2 ?restC22
     case hyC22=>intro w q;(try dsimp only at q);go_simp;(try with_reducible rfl)
     (try simp only [aP])
     refine wpAnyH_done (by kernel_rfl) ?_ _
     refine NoPanic.normal ?_
     have HX:=Hd (HX0.out w5 (zB HB4w.out HB5.out))
     go_wp2_with fail
     exact HX.out
    subst hk1
    have hlt2:a<b:=by
     apply Classical.byContradiction
     intro hc
     obtain rfl:a=b:=by omega
     have:=HT.out
     unfold piece at this
     rw [Nat.sub_self,List.take_zero] at this
     cases this
    have hall:a<l.length:=by omega
    obtain ⟨lb,lo,rfl,y1,y2,y3,hlc⟩:=HLR.out.at (Below.refl _ _) (show 0<l.length by omega)
    clear y1 y2 y3 hlc
    have HS1:Hid (∀ W,Below W4.heap.size W4 W→(fun W=>W.cell? ⟨gh,0,none⟩=some (.string hn)∧W.cell? ⟨gh,1,none⟩=some (.int .u8 (hk:Int))∧W.cell? ⟨gb,1,none⟩=some (.int .i64 (a:Int))∧W.cell? ⟨lb,lo+a*3,none⟩=some (.int .u8 (yJ l a:Int))∧Hid (Below W4.heap.size W4 W)) W):=Hd fun W hb=>⟨(HHW.out W hb).1,(HHW.out W hb).2,(HBW.out W hb).2.1,by
     obtain ⟨b2,o2,e',_,_,_,hcc⟩:=HLR.out.at (zB HB4w.out hb) (show 0<l.length by omega)
     simp only [Option.some.injEq,Addr.mk.injEq,and_true] at e'
     obtain ⟨rfl,rfl⟩:=e'
     rw [(hcc a hall).1]
     unfold yJ
     rw [List.getElem?_eq_getElem hall],Hd hb⟩
    have hkl2:yJ l a<256:=by
     unfold yJ
     rw [List.getElem?_eq_getElem hall]
     exact (HL.out.2 _ (List.getElem_mem hall)).1
    have h15:1≤hk∧hk≤5:=by
     have:=HHK.out
     unfold isSev at hsv
     simp at hsv
     omega
    have CM:=Hd (fun W=>zVn hk (yJ l a) h15.1 h15.2 hkl2 W)
    have HMY:Hid (mayB hk (yJ l a)=true→∀ w',Below W1.heap.size W1 w'→rtRel r l bs W1 (.int .i64 ((n:Int)+1)) w'):=Hd fun hm w' hb=>HYE.out w' (zGa HNE.out ⟨by simp only [];omega,by simp only [];omega,by simp only [];omega⟩ (by simp only [hpa,hpb];rw [HT.out];omega) (fun _=>⟨by simp only [hpa,hpb];exact HT.out,by simp only [hpa];exact hm⟩)) hb
    have HMN:Hid (mayB hk (yJ l a)=false→∀ w',Below w.heap.size w w'→Q (.returned (.bool false)) w'):=Hd fun hm w' hb=>HNO.out w' (zSd hsv (by simp only [hpa];exact hm)) hb
    have ha0:(0:Int)≤(a:Int):=by omega
    have hal:(a:Int)<l.length:=by omega
    have halc:(a:Int)<cl:=by omega
    clear hsv hkl2 h15
    generalize yJ l a=y at *
    go_upto_region 10 with (fail)
    cases hm:mayB hk y with
    | true =>
     rw [hm] at CM
     go_region_held3 (fun W=>W.cell? ⟨gh,0,none⟩=some (.string hn)∧W.cell? ⟨gh,1,none⟩=some (.int .u8 (hk:Int))∧W.cell? ⟨gb,1,none⟩=some (.int .i64 (a:Int))∧W.cell? ⟨lb,lo+a*3,none⟩=some (.int .u8 (y:Int))∧Hid (Below W4.heap.size W4 W)) (first | exact HS1.out _ (Below.refl _ _).drew | exact HS1.out _ HB5.out) (first | ((go_at_call 37;(with_reducible refine (CS.out _).mono ?_);(rintro e w5 ⟨rfl,hb5⟩);have HB5:=Hd ((Below.refl W4.heap.size W4).drew.trans hb5);(try dsimp only))) | ((go_at_call 38;(with_reducible refine (CM.out _).mono ?_);(rintro e w6 ⟨rfl,rfl⟩);(try dsimp only))))
     have HX:=Hd (HMY.out hm w5 (zB HB4.out HB5.out))
     go_wp2_with fail
     exact ⟨HX.out,by simp only [intOf];omega⟩
    | false =>
     rw [hm] at CM
     go_region_held3 (fun W=>W.cell? ⟨gh,0,none⟩=some (.string hn)∧W.cell? ⟨gh,1,none⟩=some (.int .u8 (hk:Int))∧W.cell? ⟨gb,1,none⟩=some (.int .i64 (a:Int))∧W.cell? ⟨lb,lo+a*3,none⟩=some (.int .u8 (y:Int))∧Hid (Below W4.heap.size W4 W)) (first | exact HS1.out _ (Below.refl _ _).drew | exact HS1.out _ HB5.out) (first | ((go_at_call 37;(with_reducible refine (CS.out _).mono ?_);(rintro e w5 ⟨rfl,hb5⟩);have HB5:=Hd ((Below.refl W4.heap.size W4).drew.trans hb5);(try dsimp only))) | ((go_at_call 38;(with_reducible refine (CM.out _).mono ?_);(rintro e w6 ⟨rfl,rfl⟩);(try dsimp only))))
     have HX:=Hd (HMN.out hm w5 (zB HB4w.out HB5.out))
     go_wp2_with fail
     exact HX.out
end Go.Proofs.YtfalelkfhandfaaGreatDoor
namespace Go.Proofs.YtfalelkfhandfaaGreatDoor
set_option maxRecDepth 100000
set_option maxHeartbeats 32000000
set_option linter.all false
attribute [local irreducible] Calls
open Go.RowKit

@[irreducible] def AnyInt (w0:World) (e:Ending) (w':World):Prop:=∃ z:Int,e=.returned (.int .i64 z)∧Below w0.heap.size w0 w'
@[irreducible] def AnyBool (w0:World) (e:Ending) (w':World):Prop:=∃ x:Bool,e=.returned (.bool x)∧Below w0.heap.size w0 w'
theorem AnyInt.mk {w0 w':World} (z:Int) (h:Below w0.heap.size w0 w'):AnyInt w0 (.returned (.int .i64 z)) w':=by unfold AnyInt;exact ⟨z,rfl,h⟩
theorem AnyBool.mk {w0 w':World} (x:Bool) (h:Below w0.heap.size w0 w'):AnyBool w0 (.returned (.bool x)) w':=by unfold AnyBool;exact ⟨x,rfl,h⟩
theorem AnyInt.out {w0 w':World} {e:Ending} (h:AnyInt w0 e w'):∃ z:Int,e=.returned (.int .i64 z)∧Below w0.heap.size w0 w':=by unfold AnyInt at h;exact h
theorem AnyBool.out {w0 w':World} {e:Ending} (h:AnyBool w0 e w'):∃ x:Bool,e=.returned (.bool x)∧Below w0.heap.size w0 w':=by unfold AnyBool at h;exact h
theorem zFl (s:ByteArray) (k:Nat) (w:World) :
  Calls Tryz.prog 46 #[.agg #[.string s,.int .u8 (k:Int)]] w fun e w'=>e=.returned (.bool (isSev k))∧Below w.heap.size w w':=by
 have HX:=Hd ((Below.refl w.heap.size w).alloc (Nat.le_refl _) (.cells #[.string s,.int .u8 (k:Int)] 49))
 have HQ:Hid (∀ x w',isSev k=x→Below w.heap.size w w'→(fun (e:Ending) w'=>e=.returned (.bool (isSev k))∧Below w.heap.size w w') (.returned (.bool x)) w'):=Hd fun x w' h hb=>⟨by rw [h],hb⟩
 generalize (fun (e:Ending) w'=>e=.returned (.bool (isSev k))∧Below w.heap.size w w')=Q at *
 by_cases h6:k=6
 ·subst h6
  have HZ:=Hd (HQ.out true _ rfl HX.out)
  go_enter Tryz.func46,Tryz.ntmps46
  go_wp2_with fail
  exact HZ.out
 by_cases h7:k=7
 ·subst h7
  have HZ:=Hd (HQ.out true _ rfl HX.out)
  go_enter Tryz.func46,Tryz.ntmps46
  go_wp2_with fail
  exact HZ.out
 have g6:((k:Int) == 6)=false:=by rw [beq_eq_false_iff_ne];omega
 have g7:((k:Int) == 7)=false:=by rw [beq_eq_false_iff_ne];omega
 have HZ:=Hd (HQ.out false _ (by unfold isSev;simp [h6,h7]) HX.out)
 clear h6 h7
 go_enter Tryz.func46,Tryz.ntmps46
 go_wp2_with fail
 exact HZ.out
end Go.Proofs.YtfalelkfhandfaaGreatDoor
namespace Go.Proofs.YtfalelkfhandfaaGreatDoor
set_option maxRecDepth 100000
set_option maxHeartbeats 32000000
set_option linter.all false
attribute [local irreducible] Calls
attribute [local irreducible] wpStill
open Go.RowKit

@[irreducible] def sizePost (total:Nat) (w0:World) (e:Ending) (w':World):Prop:=∃ n:Nat,e=.returned (.int .i64 (n:Int))∧n≤4000000∧(n=total∨(262144<n∧n≤total))∧Below w0.heap.size w0 w'
theorem sizePost.out {total:Nat} {w0 w':World} {e:Ending} (h:sizePost total w0 e w'):∃ n:Nat,e=.returned (.int .i64 (n:Int))∧n≤4000000∧(n=total∨(262144<n∧n≤total))∧Below w0.heap.size w0 w':=by unfold sizePost at h;exact h
def szRel (t:List Prt) (hs:List Hl) (bs:List Bnd) (total:Nat) (w1:World) (nv pv:Value) (wr:World):Prop:=∃ n p:Nat,nv=.int .i64 (n:Int)∧pv=.int .i64 (p:Int)∧p≤t.length+1∧n≤4000000∧n+sizeS t hs (bOf bs) t.length p=total∧Below w1.heap.size w1 wr
theorem zXr {t:List Prt} {hs:List Hl} {b:Nat→Nat×Nat} {p:Nat} (hp:p<t.length) (h:zW t hs p=none):sizeS t hs b t.length p=1+sizeS t hs b t.length (p+1):=by
 obtain ⟨N,hN⟩:∃ N,t.length=N+1:=⟨t.length-1,by omega⟩
 rw [kT t hs b t.length (N+1) p (by omega) (by omega),sizeS,if_pos hp,h]
 simp only []
 rw [kT t hs b N t.length (p+1) (by omega) (by omega)]
theorem zUn {t:List Prt} {hs:List Hl} {b:Nat→Nat×Nat} {p k:Nat} (hp:p<t.length) (h:zW t hs p=some k):sizeS t hs b t.length p=((b k).2-(b k).1)+sizeS t hs b t.length (if (t[p]).1=50 then p+2 else p+1):=by
 obtain ⟨N,hN⟩:∃ N,t.length=N+1:=⟨t.length-1,by omega⟩
 have hk:yJ t p=(t[p]).1:=by unfold yJ;rw [List.getElem?_eq_getElem hp]
 rw [kT t hs b t.length (N+1) p (by omega) (by omega),sizeS,if_pos hp,h]
 simp only []
 rw [hk,kT t hs b N t.length _ (by split <;> omega) (by split <;> omega)]
theorem zXs (r:RuleM) (hr:ruleZ r=0) (hsm:SmallR r) (vh vf vb:Value) (l:List Prt) (hl:l.length≤1048576) (vq:Value) (bs:List Bnd) (hn:bs.length=r.holes.length) (hbi:BindsIn bs l) (w:World) (hin:RuleIn w r vh vf vb) (hrb:BindRow w vq bs) :
  Calls Tryz.prog 48 #[ruleAgg r vh vf vb,vq] w (sizePost (madeP r l bs).length w):=by
 have hmt:=zZj r.by' l r.holes (bOf bs) (kV hr).2.1
 have HQ:Hid (∀ (n:Nat) w',n≤4000000→(n=(madeP r l bs).length∨(262144<n∧n≤(madeP r l bs).length))→Below w.heap.size w w'→sizePost (madeP r l bs).length w (.returned (.int .i64 (n:Int))) w'):=Hd fun n w' h1 h2 h3=>by unfold sizePost;exact ⟨n,rfl,h1,h2,h3⟩
 generalize sizePost (madeP r l bs).length w=Q at *
 unfold madeP at HQ
 rw [← hmt] at HQ
 clear hmt
 obtain ⟨ah,ch,rfl,hch⟩:=Row.shape hin.H
 obtain ⟨af,cf,rfl,hcf⟩:=hin.F.slice
 obtain ⟨ab,cb,rfl,hcb⟩:=hin.B.slice
 obtain ⟨aq,cq,rfl,hcq⟩:=Row.shape hrb
 have hhl:=hsm.h.1
 have hyl:=hsm.b.1
 have CH:=Hd (fun p (hp:p<r.by'.length) W (hb:Below w.heap.size w W)=>zId r.by' r.holes hyl hhl p hp _ _ W (hin.B.below hb) (hin.H.below hb))
 have HIN:=Hd hin
 have HRB:=Hd hrb
 have HBI:=Hd hbi
 have HNN:=Hd hn
 have HR1:Hid (RK (w.alloc (.cells #[.string r.nm,.int .u8 (r.goal:Int),.slice ah r.holes.length ch,.slice af r.fnd.length cf,.slice ab r.by'.length cb] 36)) w.heap.size r.nm r.goal (.slice ah r.holes.length ch) (.slice af r.fnd.length cf) (.slice ab r.by'.length cb)):=Hd (heap_alloc_new _ _)
 have HB1:Hid (Below w.heap.size w (w.alloc (.cells #[.string r.nm,.int .u8 (r.goal:Int),.slice ah r.holes.length ch,.slice af r.fnd.length cf,.slice ab r.by'.length cb] 36))):=Hd ((Below.refl _ _).alloc (Nat.le_refl _) _)
 clear hin hrb hbi hn hsm hr
 unfold ruleAgg
 go_enter Tryz.func48,Tryz.ntmps48
 go_upto_region 1 with (fail)
 generalize w.alloc (.cells #[.string r.nm,.int .u8 (r.goal:Int),.slice ah r.holes.length ch,.slice af r.fnd.length cf,.slice ab r.by'.length cb] 36)=W1 at *
 obtain ⟨gr,hgr⟩:∃ gr,w.heap.size=gr:=⟨_,rfl⟩
 rw [hgr] at HR1 ⊢
 clear hgr
 go_wp2_with fail
 go_loopw [5,6] (fun nv pv wr=>szRel r.by' r.holes bs (sizeS r.by' r.holes (bOf bs) r.by'.length 0) W1 nv pv wr) (fun _ pv _=>r.by'.length+1-(intOf pv).toNat)
 case atStart=>exact ⟨0,0,rfl,rfl,Nat.zero_le _,Nat.zero_le _,by omega,Below.refl _ _⟩
 case round =>
  obtain ⟨n,p,rfl,rfl,hp,hn,hsz,hb⟩:=hrel
  have HSZ:=Hd hsz
  have HB:=Hd hb
  have HBW:=Hd (zB HB1.out hb)
  clear hb hsz
  obtain ⟨e0,e1,e2,e3,e4⟩:=(HR1.out.below HB.out).cells
  clear e0 e1 e3
  by_cases hlt:p<r.by'.length
  case neg =>
   have hpl:¬ (p:Int)<r.by'.length:=by omega
   have HX:=Hd (HQ.out n wr hn (Or.inl (by have h1:=HSZ.out;have h2:=zSu (t:=r.by') (hs:=r.holes) (b:=bOf bs) r.by'.length p (by omega);omega)) HBW.out)
   go_wp2_with fail
   exact HX.out
  have hpl:(p:Int)<r.by'.length:=by omega
  by_cases hn2:n≤262144
  case neg =>
   have hnn:¬ (n:Int)≤262144:=by omega
   have HX:=Hd (HQ.out n wr hn (Or.inr ⟨by omega,by have:=HSZ.out;omega⟩) HBW.out)
   go_wp2_with fail
   exact HX.out
  have hnn:(n:Int)≤262144:=by omega
  have hwp:IntKind.i64.wrap ((p:Int)+1)=(p:Int)+1:=wI (by omega)
  have C1:=Hd (CH.out p hlt wr HBW.out)
  cases ho:zW r.by' r.holes p with
  | none =>
   rw [ho] at C1
   simp only [holeI] at C1
   have hwn:IntKind.i64.wrap ((n:Int)+1)=(n:Int)+1:=wI (by omega)
   have HNX:Hid (∀ w',Below W1.heap.size W1 w'→szRel r.by' r.holes bs (sizeS r.by' r.holes (bOf bs) r.by'.length 0) W1 (.int .i64 ((n:Int)+1)) (.int .i64 ((p:Int)+1)) w'):=Hd fun w' hb=>⟨n+1,p+1,by push_cast;rfl,by push_cast;rfl,by omega,by omega,by have:=HSZ.out;rw [zXr hlt ho] at this;omega,hb⟩
   clear ho
   go_wp2_with fail
   refine C1.out.mono ?_
   rintro e w2 ⟨rfl,hb2⟩
   have HX:=Hd (HNX.out w2 (zB HB.out hb2))
   clear hb2
   go_wp2_with fail
   exact ⟨HX.out,by simp only [intOf];omega⟩
  | some k =>
   rw [ho] at C1
   simp only [holeI] at C1
   have hk:k<bs.length:=by rw [HNN.out];exact (kB ho).1
   have hkb:=HBI.out _ (List.getElem_mem hk)
   have hsz2:=HSZ.out
   rw [zUn hlt ho,zEb hk] at hsz2
   simp only [] at hsz2
   have HCB:=Hd (fun W (hb:Below w.heap.size w W)=>by
    obtain ⟨b2,o2,e',_,_,_,hcc⟩:=HRB.out.at hb (show 0<bs.length by omega)
    exact (⟨b2,o2,e',(hcc k hk).2.1,(hcc k hk).2.2⟩:∃ b2 o2,aq=some ⟨b2,o2,none⟩∧W.cell? ⟨b2,o2+k*3+1,none⟩=some (.int .i64 (bs[k]).2.1)∧W.cell? ⟨b2,o2+k*3+2,none⟩=some (.int .i64 (bs[k]).2.2)))
   obtain ⟨fr,hfr⟩:∃ fr:Nat,(bs[k]).2.1=(fr:Int):=⟨(bs[k]).2.1.toNat,by omega⟩
   obtain ⟨tx,htx⟩:∃ tx:Nat,(bs[k]).2.2=(tx:Int):=⟨(bs[k]).2.2.toNat,by omega⟩
   rw [hfr,htx] at hsz2 hkb HCB
   simp only [Int.toNat_natCast] at hsz2
   clear hfr htx ho
   have hft:fr≤tx:=by omega
   have htl:tx≤l.length:=by omega
   have hk0:(0:Int)≤(k:Int):=by omega
   have hk1:¬ (k:Int)<0:=by omega
   have hkl:(k:Int)<bs.length:=by omega
   have hkc:(k:Int)<cq:=by omega
   have hp0:(0:Int)≤(p:Int):=by omega
   have hpc:(p:Int)<cb:=by omega
   have hw1:IntKind.i64.wrap ((n:Int)+(tx:Int))=(n:Int)+(tx:Int):=wI (by omega)
   have hw2:IntKind.i64.wrap ((n:Int)+(tx:Int)-(fr:Int))=(n:Int)+(tx:Int)-(fr:Int):=wI (by omega)
   obtain ⟨nn,hnnn⟩:∃ nn:Nat,(n:Int)+(tx:Int)-(fr:Int)=(nn:Int):=⟨n+tx-fr,by omega⟩
   have hnn4:nn≤4000000:=by omega
   have HKD:=Hd (fun W (hb:Below w.heap.size w W)=>by
    obtain ⟨b2,o2,e',_,_,_,hcc⟩:=HIN.out.B.at hb (show 0<r.by'.length by omega)
    exact (⟨b2,o2,e',(hcc p hlt).1⟩:∃ b2 o2,ab=some ⟨b2,o2,none⟩∧W.cell? ⟨b2,o2+p*3,none⟩=some (.int .u8 ((r.by'[p]).1:Int))))
   have HNX:Hid (∀ (q:Nat) w',q=(if (r.by'[p]).1=50 then p+2 else p+1)→q≤r.by'.length+1→Below W1.heap.size W1 w'→szRel r.by' r.holes bs (sizeS r.by' r.holes (bOf bs) r.by'.length 0) W1 (.int .i64 (nn:Int)) (.int .i64 (q:Int)) w'):=Hd fun q w' hq hql hb=>⟨nn,q,rfl,rfl,hql,hnn4,by rw [hq];omega,hb⟩
   clear hsz2 hkb hft htl
   go_wp2_with fail
   refine C1.out.mono ?_
   rintro e w2 ⟨rfl,hb2⟩
   have HB2:=Hd (zB HB.out hb2)
   have HBW2:=Hd (zB HBW.out hb2)
   clear hb2 C1 e2 e4
   go_upto_region 8 with (fail)
   have HBD2:=Hd (HB2.out.drew)
   have HBDW2:=Hd (HBW2.out.drew)
   obtain ⟨qb,qo,rfl,q1,q2⟩:=HCB.out w2.drew HBDW2.out
   obtain ⟨yb,yo,rfl,y0⟩:=HKD.out w2.drew HBDW2.out
   obtain ⟨e0,e1,e2,e3,e4⟩:=(HR1.out.below HBD2.out).cells
   clear e0 e1 e2 e3
   rw [hnnn] at hw2
   go_still_tail 13,(by kernel_rfl)
   clear HCB HKD
   generalize (r.by'[p]).1=kp at *
   by_cases h50:kp=50
   ·subst h50
    have hwp2:IntKind.i64.wrap ((p:Int)+1+1)=(p:Int)+1+1:=wI (by omega)
    by_cases hpe:p+1<r.by'.length+1
    ·have HX:=Hd (HNX.out (p+2) w2.drew rfl (by omega) HBD2.out)
     rw [show ((p+2:Nat):Int)=(p:Int)+1+1 by push_cast;omega] at HX
     go_wp2_with fail
     exact ⟨HX.out,by simp only [intOf];omega⟩
    ·omega
   ·have g50:((kp:Int) == 50)=false:=by rw [beq_eq_false_iff_ne];omega
    have HX:=Hd (HNX.out (p+1) w2.drew (by rw [if_neg h50]) (by omega) HBD2.out)
    rw [show ((p+1:Nat):Int)=(p:Int)+1 by push_cast;omega] at HX
    clear h50
    go_wp2_with fail
    exact ⟨HX.out,by simp only [intOf];omega⟩
end Go.Proofs.YtfalelkfhandfaaGreatDoor
namespace Go.Proofs.YtfalelkfhandfaaGreatDoor
set_option maxRecDepth 100000
set_option maxHeartbeats 32000000
set_option linter.all false
attribute [local irreducible] Calls
open Go.RowKit

def lcRel (rs:List RuleX) (w0:World) (iv:Value) (wr:World):Prop:=∃ k:Nat,iv=.int .i64 (k:Int)∧k≤rs.length∧xQ (rs.map (·.1))=xQ ((rs.drop k).map (·.1))∧Below w0.heap.size w0 wr
theorem zPx (rs:List RuleX) (hs:∀ x∈rs,SmallR x.1) (l:List Prt) (hl:l.length≤1048576) (vr vl:Value) (w:World) (hT:Tabs w) (hM:MaxC w) (hr:xZ w vr rs) (hlr:zD w vl l) :
  Calls Tryz.prog 17 #[vr,vl] w fun e w'=>e=.returned (.int .i64 (yX (rs.map (·.1)) l))∧Below w.heap.size w w':=by
 have HQ:Hid (∀ x w',yX (rs.map (·.1)) l=x→Below w.heap.size w w'→(fun (e:Ending) w'=>e=.returned (.int .i64 (yX (rs.map (·.1)) l))∧Below w.heap.size w w') (.returned (.int .i64 x)) w'):=Hd fun x w' h hb=>⟨by rw [h],hb⟩
 generalize (fun (e:Ending) w'=>e=.returned (.int .i64 (yX (rs.map (·.1)) l))∧Below w.heap.size w w')=Q at *
 have HF:Hid (yX (rs.map (·.1)) l=if zZ l=false then 8 else if 32<rs.length then 14 else xQ (rs.map (·.1))):=Hd (by unfold yX;rw [List.length_map])
 obtain ⟨ar,cr,rfl,hcr⟩:=hr.shape
 obtain ⟨al,cl,rfl,hcl⟩:=hlr.slice
 have CW:=Hd (zEr l (by omega) _ w hlr)
 have HS:=Hd hs
 have HR:=Hd hr
 have HT:=Hd hT
 have HMX:=Hd hM
 clear hr hlr hs hT hM
 go_enter Tryz.func17,Tryz.ntmps17
 go_wp2_with fail
 refine CW.out.mono ?_
 rintro e W1 ⟨rfl,hb1⟩
 have HB1:=Hd hb1
 clear hb1 CW
 cases hw:zZ l with
 | false =>
  have HX:=Hd (HQ.out 8 W1 (by rw [HF.out,hw];rfl) HB1.out)
  clear hw
  go_wp2_with fail
  exact HX.out
 | true =>
 have HW:=Hd hw
 clear hw
 by_cases h32:32<rs.length
 ·have HX:=Hd (HQ.out 14 W1 (by rw [HF.out,HW.out,if_neg (by simp),if_pos h32]) HB1.out)
  have g1:(32:Int)<rs.length:=by omega
  go_wp2_with fail
  exact HX.out
 have HFE:Hid (yX (rs.map (·.1)) l=xQ (rs.map (·.1))):=Hd (by rw [HF.out,HW.out,if_neg (by simp),if_neg h32])
 have h32':(rs.length:Int)≤32:=by omega
 clear h32
 go_wp2_with fail
 go_loopw [18] (fun iv wr=>lcRel rs W1 iv wr) (fun iv _=>rs.length-(intOf iv).toNat)
 case atStart=>exact ⟨0,rfl,Nat.zero_le _,rfl,Below.refl _ _⟩
 case round =>
  obtain ⟨k,rfl,hk,hfe,hb⟩:=hrel
  have HB:=Hd hb
  have HE:=Hd hfe
  clear hb hfe
  by_cases hlt:k<rs.length
  ·obtain ⟨b,off,rfl,_,_,hbl,hcell⟩:=HR.out.at (zB HB1.out HB.out) (show 0<rs.length by omega)
   obtain ⟨d0,d1,d2,d3,d4⟩:=hcell k hlt
   have hin:=HR.out.E _ (List.getElem_mem hlt)
   have hsm:=HS.out _ (List.getElem_mem hlt)
   have HE2:Hid (xQ (rs.map (·.1))=if ruleZ (rs[k]).1=0 then xQ ((rs.drop (k+1)).map (·.1)) else ruleZ (rs[k]).1):=Hd (by
    rw [HE.out,List.drop_eq_getElem_cons hlt,List.map_cons,xQ])
   generalize rs[k]=x at *
   obtain ⟨r,vh,vf,vb⟩:=x
   simp only [] at d0 d1 d2 d3 d4 hin hsm HE2
   obtain ⟨ah,ch,rfl,hch⟩:=Row.shape hin.H
   obtain ⟨af,cf,rfl,hcf⟩:=hin.F.slice
   obtain ⟨ab,cb,rfl,hcb⟩:=hin.B.slice
   have HBA:Hid (Below W1.heap.size W1 (wr.alloc (.cells #[.string r.nm,.int .u8 (r.goal:Int),.slice ah r.holes.length ch,.slice af r.fnd.length cf,.slice ab r.by'.length cb] 36))):=Hd (HB.out.alloc HB.out.size _)
   have CR:=Hd (zRe r hsm _ _ _ _ (HT.out.below (zB HB1.out HBA.out)) (HMX.out.below (zB HB1.out HBA.out)) (hin.below (zB HB1.out HBA.out)))
   unfold ruleAgg at CR
   clear hcell hin hsm
   go_wp2_with fail
   refine CR.out.mono ?_
   rintro e W3 ⟨rfl,hb3⟩
   have HB3:=Hd (zB HBA.out hb3)
   clear hb3 CR HBA d0 d1 d2 d3 d4
   by_cases hz:ruleZ r=0
   ·have HX:Hid (lcRel rs W1 (.int .i64 ((k:Int)+1)) W3):=Hd ⟨k+1,by push_cast;rfl,hlt,by rw [HE2.out,if_pos hz],HB3.out⟩
    rw [hz]
    clear hz
    go_wp2_with fail
    case roundEnd=>exact ⟨HX.out,by simp only [intOf];omega⟩
   ·have HX:=Hd (HQ.out (ruleZ r) W3 (by rw [HFE.out,HE2.out,if_neg hz]) (zB HB1.out HB3.out))
    have g1:(ruleZ r != 0)=true:=by rw [bne_iff_ne];exact hz
    have g2:(ruleZ r == 0)=false:=by rw [beq_eq_false_iff_ne];exact hz
    clear hz
    generalize ruleZ r=z at *
    go_wp2_with fail
    exact HX.out
  ·obtain rfl:k=rs.length:=by omega
   have HX:=Hd (HQ.out 0 wr (by rw [HFE.out,HE.out,List.drop_length];rfl) (zB HB1.out HB.out))
   go_wp2_with fail
   exact HX.out
end Go.Proofs.YtfalelkfhandfaaGreatDoor
namespace Go.Proofs.YtfalelkfhandfaaGreatDoor
set_option maxRecDepth 100000
set_option maxHeartbeats 32000000
set_option linter.all false
attribute [local irreducible] Calls
open Go.RowKit

def grRel (n:Nat) (W0:World) (nv iv:Value) (wr:World):Prop:=∃ (k:Nat) (z:Int),iv=.int .i64 (k:Int)∧nv=.int .i64 z∧k≤n∧Below W0.heap.size W0 wr
theorem zUc (rs:List RuleX) (hs:∀ x∈rs,SmallR x.1) (hn:rs.length≤1048576) (vr:Value) (most:Int) (w:World) (hr:xZ w vr rs) :
  Calls Tryz.prog 14 #[vr,.int .i64 most] w (AnyBool w):=by
 obtain ⟨ar,cr,rfl,hcr⟩:=hr.shape
 have HQ:Hid (∀ z w',Below w.heap.size w w'→AnyBool w (.returned (.bool z)) w'):=Hd fun z w' hb=>AnyBool.mk z hb
 generalize AnyBool w=Q at *
 have HS:=Hd hs
 have HR:=Hd hr
 clear hr hs
 go_enter Tryz.func14,Tryz.ntmps14
 go_wp2_with fail
 go_loopw [5,6] (fun nv iv wr=>grRel rs.length w nv iv wr) (fun _ iv _=>rs.length-(intOf iv).toNat)
 case atStart=>exact ⟨0,0,rfl,rfl,Nat.zero_le _,Below.refl _ _⟩
 case round =>
  obtain ⟨k,z,rfl,rfl,hk,hb⟩:=hrel
  have HB:=Hd hb
  clear hb
  by_cases hlt:k<rs.length
  case neg =>
   obtain rfl:k=rs.length:=by omega
   have HX:=Hd (fun x=>HQ.out x wr HB.out)
   go_wp2_with fail
   exact HX.out _
  by_cases hz:z≤most
  case neg =>
   have hkl:(k:Int)<rs.length:=by omega
   have HX:=Hd (fun x=>HQ.out x wr HB.out)
   go_wp2_with fail
   exact HX.out _
  have hk0:(0:Int)≤(k:Int):=by omega
  have hkl:(k:Int)<rs.length:=by omega
  have hkc:(k:Int)<cr:=by omega
  have hin:=HR.out.E _ (List.getElem_mem hlt)
  have hsm:=HS.out _ (List.getElem_mem hlt)
  obtain ⟨b,off,rfl,_,_,hbl,hcell⟩:=HR.out.at HB.out (show 0<rs.length by omega)
  have hc:=hcell k hlt
  have HC:Hid (∀ W,Below w.heap.size w W→W.cell? ⟨b,off+k*5,none⟩=some (.string (rs[k]).1.nm)∧W.cell? ⟨b,off+k*5+2,none⟩=some (rs[k]).2.1∧W.cell? ⟨b,off+k*5+3,none⟩=some (rs[k]).2.2.1∧W.cell? ⟨b,off+k*5+4,none⟩=some (rs[k]).2.2.2):=Hd fun W hW=>by
   obtain ⟨b',off',e,_,_,_,hc2⟩:=HR.out.at hW (show 0<rs.length by omega)
   cases e
   obtain ⟨c0,_,c2,c3,c4⟩:=hc2 k hlt
   exact ⟨c0,c2,c3,c4⟩
  clear hcell hc
  generalize rs[k]=x at *
  obtain ⟨r,vh,vf,vb⟩:=x
  simp only [] at hin hsm HC
  obtain ⟨ah,ch,rfl,hch⟩:=Row.shape hin.H
  obtain ⟨af,cf,rfl,hcf⟩:=hin.F.slice
  obtain ⟨ab,cb,rfl,hcb⟩:=hin.B.slice
  have HIN:=Hd hin
  have HSM:=Hd hsm
  have hlh:=hsm.h.1
  have hlf:=hsm.f.1
  have hlb:=hsm.b.1
  have hln:=hsm.n
  clear hin hsm
  obtain ⟨c0,c2,c3,c4⟩:=HC.out _ HB.out
  go_upto_region 5 with (fail)
  go_quiet (fail)
  have HB1:=Hd (drewB HB.out nq)
  clear c0 c2 c3 c4
  generalize wr.drewN nq=w1 at *
  go_wp2_with fail
  go_loopw [5,7] (fun nv iv wr=>grRel r.holes.length w nv iv wr) (fun _ iv _=>r.holes.length-(intOf iv).toNat)
  case atStart=>exact ⟨0,_,rfl,rfl,Nat.zero_le _,HB1.out⟩
  case round =>
   obtain ⟨j1,z1,rfl,rfl,hj1,hb1⟩:=hrel
   have HBX:=Hd hb1
   clear hb1
   obtain ⟨c0,c2,c3,c4⟩:=HC.out _ HBX.out
   by_cases hlt1:j1<r.holes.length
   ·by_cases hzz:z1≤most
    ·have hq0:(0:Int)≤(j1:Int):=by omega
     have hql:(j1:Int)<r.holes.length:=by omega
     have hqc:(j1:Int)<ch:=by omega
     obtain ⟨b1,o1,rfl,_,_,_,hcc⟩:=HIN.out.H.at HBX.out (show 0<r.holes.length by omega)
     have hd:=hcc j1 hlt1
     have hsz:=HSM.out.h.2 _ (List.getElem_mem hlt1)
     generalize (r.holes[j1])=y at *
     obtain ⟨yn,yk⟩:=y
     simp only [] at hd hsz
     obtain ⟨d0,d1⟩:=hd
     obtain ⟨s0,s1⟩:=hsz
     clear hcc
     go_wp2_with fail
     all_goals exact ⟨⟨j1+1,_,by push_cast;rfl,rfl,hlt1,HBX.out⟩,by simp only [intOf];omega⟩
    ·have hql:(j1:Int)<r.holes.length:=by omega
     go_wp2_with fail
     go_loopw [5,8] (fun nv iv wr=>grRel r.fnd.length w nv iv wr) (fun _ iv _=>r.fnd.length-(intOf iv).toNat)
     case atStart=>exact ⟨0,_,rfl,rfl,Nat.zero_le _,HBX.out⟩
     case round =>
      obtain ⟨j2,z2,rfl,rfl,hj2,hb2⟩:=hrel
      have HBX:=Hd hb2
      clear hb2
      obtain ⟨c0,c2,c3,c4⟩:=HC.out _ HBX.out
      by_cases hlt2:j2<r.fnd.length
      ·by_cases hzz:z2≤most
       ·have hq0:(0:Int)≤(j2:Int):=by omega
        have hql:(j2:Int)<r.fnd.length:=by omega
        have hqc:(j2:Int)<cf:=by omega
        obtain ⟨b2,o2,rfl,_,_,_,hcc⟩:=HIN.out.F.at HBX.out (show 0<r.fnd.length by omega)
        have hd:=hcc j2 hlt2
        have hsz:=HSM.out.f.2 _ (List.getElem_mem hlt2)
        generalize (r.fnd[j2])=y at *
        obtain ⟨yk,yn,yw⟩:=y
        simp only [] at hd hsz
        obtain ⟨d0,d1,d2⟩:=hd
        obtain ⟨s0,s1⟩:=hsz
        clear hcc
        go_wp2_with fail
        all_goals exact ⟨⟨j2+1,_,by push_cast;rfl,rfl,hlt2,HBX.out⟩,by simp only [intOf];omega⟩
       ·have hql:(j2:Int)<r.fnd.length:=by omega
        go_wp2_with fail
        go_loopw [5,9] (fun nv iv wr=>grRel r.by'.length w nv iv wr) (fun _ iv _=>r.by'.length-(intOf iv).toNat)
        case atStart=>exact ⟨0,_,rfl,rfl,Nat.zero_le _,HBX.out⟩
        case round =>
         obtain ⟨j3,z3,rfl,rfl,hj3,hb3⟩:=hrel
         have HBX:=Hd hb3
         clear hb3
         obtain ⟨c0,c2,c3,c4⟩:=HC.out _ HBX.out
         by_cases hlt3:j3<r.by'.length
         ·by_cases hzz:z3≤most
          ·have hq0:(0:Int)≤(j3:Int):=by omega
           have hql:(j3:Int)<r.by'.length:=by omega
           have hqc:(j3:Int)<cb:=by omega
           obtain ⟨b3,o3,rfl,_,_,_,hcc⟩:=HIN.out.B.at HBX.out (show 0<r.by'.length by omega)
           have hd:=hcc j3 hlt3
           have hsz:=HSM.out.b.2 _ (List.getElem_mem hlt3)
           generalize (r.by'[j3])=y at *
           obtain ⟨yk,yn,yw⟩:=y
           simp only [] at hd hsz
           obtain ⟨d0,d1,d2⟩:=hd
           obtain ⟨s0,s1⟩:=hsz
           clear hcc
           go_wp2_with fail
           all_goals exact ⟨⟨j3+1,_,by push_cast;rfl,rfl,hlt3,HBX.out⟩,by simp only [intOf];omega⟩
          ·have hql:(j3:Int)<r.by'.length:=by omega
           go_wp2_with fail
           exact ⟨⟨k+1,_,by push_cast;rfl,rfl,hlt,HBX.out⟩,by simp only [intOf];omega⟩
         ·obtain rfl:j3=r.by'.length:=by omega
          go_wp2_with fail
          exact ⟨⟨k+1,_,by push_cast;rfl,rfl,hlt,HBX.out⟩,by simp only [intOf];omega⟩
      ·obtain rfl:j2=r.fnd.length:=by omega
       go_wp2_with fail
       go_loopw [5,9] (fun nv iv wr=>grRel r.by'.length w nv iv wr) (fun _ iv _=>r.by'.length-(intOf iv).toNat)
       case atStart=>exact ⟨0,_,rfl,rfl,Nat.zero_le _,HBX.out⟩
       case round =>
        obtain ⟨j3,z3,rfl,rfl,hj3,hb3⟩:=hrel
        have HBX:=Hd hb3
        clear hb3
        obtain ⟨c0,c2,c3,c4⟩:=HC.out _ HBX.out
        by_cases hlt3:j3<r.by'.length
        ·by_cases hzz:z3≤most
         ·have hq0:(0:Int)≤(j3:Int):=by omega
          have hql:(j3:Int)<r.by'.length:=by omega
          have hqc:(j3:Int)<cb:=by omega
          obtain ⟨b3,o3,rfl,_,_,_,hcc⟩:=HIN.out.B.at HBX.out (show 0<r.by'.length by omega)
          have hd:=hcc j3 hlt3
          have hsz:=HSM.out.b.2 _ (List.getElem_mem hlt3)
          generalize (r.by'[j3])=y at *
          obtain ⟨yk,yn,yw⟩:=y
          simp only [] at hd hsz
          obtain ⟨d0,d1,d2⟩:=hd
          obtain ⟨s0,s1⟩:=hsz
          clear hcc
          go_wp2_with fail
          all_goals exact ⟨⟨j3+1,_,by push_cast;rfl,rfl,hlt3,HBX.out⟩,by simp only [intOf];omega⟩
         ·have hql:(j3:Int)<r.by'.length:=by omega
          go_wp2_with fail
          exact ⟨⟨k+1,_,by push_cast;rfl,rfl,hlt,HBX.out⟩,by simp only [intOf];omega⟩
        ·obtain rfl:j3=r.by'.length:=by omega
         go_wp2_with fail
         exact ⟨⟨k+1,_,by push_cast;rfl,rfl,hlt,HBX.out⟩,by simp only [intOf];omega⟩
   ·obtain rfl:j1=r.holes.length:=by omega
    go_wp2_with fail
    go_loopw [5,8] (fun nv iv wr=>grRel r.fnd.length w nv iv wr) (fun _ iv _=>r.fnd.length-(intOf iv).toNat)
    case atStart=>exact ⟨0,_,rfl,rfl,Nat.zero_le _,HBX.out⟩
    case round =>
     obtain ⟨j2,z2,rfl,rfl,hj2,hb2⟩:=hrel
     have HBX:=Hd hb2
     clear hb2
     obtain ⟨c0,c2,c3,c4⟩:=HC.out _ HBX.out
     by_cases hlt2:j2<r.fnd.length
     ·by_cases hzz:z2≤most
      ·have hq0:(0:Int)≤(j2:Int):=by omega
       have hql:(j2:Int)<r.fnd.length:=by omega
       have hqc:(j2:Int)<cf:=by omega
       obtain ⟨b2,o2,rfl,_,_,_,hcc⟩:=HIN.out.F.at HBX.out (show 0<r.fnd.length by omega)
       have hd:=hcc j2 hlt2
       have hsz:=HSM.out.f.2 _ (List.getElem_mem hlt2)
       generalize (r.fnd[j2])=y at *
       obtain ⟨yk,yn,yw⟩:=y
       simp only [] at hd hsz
       obtain ⟨d0,d1,d2⟩:=hd
       obtain ⟨s0,s1⟩:=hsz
       clear hcc
       go_wp2_with fail
       all_goals exact ⟨⟨j2+1,_,by push_cast;rfl,rfl,hlt2,HBX.out⟩,by simp only [intOf];omega⟩
      ·have hql:(j2:Int)<r.fnd.length:=by omega
       go_wp2_with fail
       go_loopw [5,9] (fun nv iv wr=>grRel r.by'.length w nv iv wr) (fun _ iv _=>r.by'.length-(intOf iv).toNat)
       case atStart=>exact ⟨0,_,rfl,rfl,Nat.zero_le _,HBX.out⟩
       case round =>
        obtain ⟨j3,z3,rfl,rfl,hj3,hb3⟩:=hrel
        have HBX:=Hd hb3
        clear hb3
        obtain ⟨c0,c2,c3,c4⟩:=HC.out _ HBX.out
        by_cases hlt3:j3<r.by'.length
        ·by_cases hzz:z3≤most
         ·have hq0:(0:Int)≤(j3:Int):=by omega
          have hql:(j3:Int)<r.by'.length:=by omega
          have hqc:(j3:Int)<cb:=by omega
          obtain ⟨b3,o3,rfl,_,_,_,hcc⟩:=HIN.out.B.at HBX.out (show 0<r.by'.length by omega)
          have hd:=hcc j3 hlt3
          have hsz:=HSM.out.b.2 _ (List.getElem_mem hlt3)
          generalize (r.by'[j3])=y at *
          obtain ⟨yk,yn,yw⟩:=y
          simp only [] at hd hsz
          obtain ⟨d0,d1,d2⟩:=hd
          obtain ⟨s0,s1⟩:=hsz
          clear hcc
          go_wp2_with fail
          all_goals exact ⟨⟨j3+1,_,by push_cast;rfl,rfl,hlt3,HBX.out⟩,by simp only [intOf];omega⟩
         ·have hql:(j3:Int)<r.by'.length:=by omega
          go_wp2_with fail
          exact ⟨⟨k+1,_,by push_cast;rfl,rfl,hlt,HBX.out⟩,by simp only [intOf];omega⟩
        ·obtain rfl:j3=r.by'.length:=by omega
         go_wp2_with fail
         exact ⟨⟨k+1,_,by push_cast;rfl,rfl,hlt,HBX.out⟩,by simp only [intOf];omega⟩
     ·obtain rfl:j2=r.fnd.length:=by omega
      go_wp2_with fail
      go_loopw [5,9] (fun nv iv wr=>grRel r.by'.length w nv iv wr) (fun _ iv _=>r.by'.length-(intOf iv).toNat)
      case atStart=>exact ⟨0,_,rfl,rfl,Nat.zero_le _,HBX.out⟩
      case round =>
       obtain ⟨j3,z3,rfl,rfl,hj3,hb3⟩:=hrel
       have HBX:=Hd hb3
       clear hb3
       obtain ⟨c0,c2,c3,c4⟩:=HC.out _ HBX.out
       by_cases hlt3:j3<r.by'.length
       ·by_cases hzz:z3≤most
        ·have hq0:(0:Int)≤(j3:Int):=by omega
         have hql:(j3:Int)<r.by'.length:=by omega
         have hqc:(j3:Int)<cb:=by omega
         obtain ⟨b3,o3,rfl,_,_,_,hcc⟩:=HIN.out.B.at HBX.out (show 0<r.by'.length by omega)
         have hd:=hcc j3 hlt3
         have hsz:=HSM.out.b.2 _ (List.getElem_mem hlt3)
         generalize (r.by'[j3])=y at *
         obtain ⟨yk,yn,yw⟩:=y
         simp only [] at hd hsz
         obtain ⟨d0,d1,d2⟩:=hd
         obtain ⟨s0,s1⟩:=hsz
         clear hcc
         go_wp2_with fail
         all_goals exact ⟨⟨j3+1,_,by push_cast;rfl,rfl,hlt3,HBX.out⟩,by simp only [intOf];omega⟩
        ·have hql:(j3:Int)<r.by'.length:=by omega
         go_wp2_with fail
         exact ⟨⟨k+1,_,by push_cast;rfl,rfl,hlt,HBX.out⟩,by simp only [intOf];omega⟩
       ·obtain rfl:j3=r.by'.length:=by omega
        go_wp2_with fail
        exact ⟨⟨k+1,_,by push_cast;rfl,rfl,hlt,HBX.out⟩,by simp only [intOf];omega⟩
end Go.Proofs.YtfalelkfhandfaaGreatDoor
