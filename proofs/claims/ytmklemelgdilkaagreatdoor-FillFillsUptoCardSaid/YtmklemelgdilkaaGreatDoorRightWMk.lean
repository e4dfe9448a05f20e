/- Layer 20: fill.right, walked (printed by tools/genright.py). -/
import Derived.Test.YtmklemelgdilkaaGreatDoorPackMk
import Derived.Test.YtmklemelgdilkaaGreatDoorFillBMk
import Derived.Test.YtmklemelgdilkaaGreatDoorFillCMk
import Derived.Test.YtmklemelgdilkaaGreatDoorRulesVMk
import Derived.Test.YtmklemelgdilkaaGreatDoorStillMk
import Derived.Deep.RegionHeld3
namespace Go.Proofs.YtmklemelgdilkaaGreatDoor
set_option linter.all false
attribute [local irreducible] Calls
attribute [local irreducible] wpStill
open Go.RowKit

def BdK (W:World) (g:Nat) (b:Bnd):Prop:=W.heap[g]?=some (.cells #[.string b.1,.int .i64 b.2.1,.int .i64 b.2.2] 48 (0,0))
theorem BdK.cells {W:World} {g:Nat} {b:Bnd} (h:BdK W g b):W.cell? ⟨g,0,none⟩=some (.string b.1)∧W.cell? ⟨g,1,none⟩=some (.int .i64 b.2.1)∧W.cell? ⟨g,2,none⟩=some (.int .i64 b.2.2):=by
 unfold BdK at h
 simp [World.cell?,h]
theorem BdK.keep {W W':World} {g:Nat} {b:Bnd} (h:BdK W g b) (hb:Below W.heap.size W W'):BdK W' g b:=keeps hb h
def HoK (W:World) (g:Nat) (x:Hl):Prop:=W.heap[g]?=some (.cells #[.string x.1,.int .u8 (x.2:Int)] 43 (0,0))
theorem HoK.cells {W:World} {g:Nat} {x:Hl} (h:HoK W g x):W.cell? ⟨g,0,none⟩=some (.string x.1)∧W.cell? ⟨g,1,none⟩=some (.int .u8 (x.2:Int)):=by
 unfold HoK at h
 simp [World.cell?,h]
theorem HoK.keep {W W':World} {g:Nat} {x:Hl} (h:HoK W g x) (hb:Below W.heap.size W W'):HoK W' g x:=keeps hb h
theorem bytes_eqR {x y:ByteArray}:(x.toList == y.toList)=decide (x=y):=by
 by_cases h:x=y
 ·subst h;simp
 ·rw [decide_eq_false h,beq_eq_false_iff_ne];exact pl_bytes_ne h
def rtRel (r:RuleM) (l:List Prt) (bs:List Bnd) (w1:World) (nv:Value) (wr:World):Prop:=∃ n:Nat,nv=.int .i64 (n:Int)∧n≤bs.length∧RightTo r l bs n∧Below w1.heap.size w1 wr
set_option maxRecDepth 100000 in
set_option maxHeartbeats 16000000 in
theorem fill_right (r:RuleM) (hk:∀ h∈r.holes,1≤h.2∧h.2≤7) (hhl:r.holes.length≤1048576) (vh vf vb:Value) (l:List Prt) (hl:SmallL l) (us:List Nat) (hus:rowsB l=some us) (vl ve vq:Value) (bs:List Bnd) (hbl:bs.length≤1048576) (w:World) (hin:RuleIn w r vh vf vb) (hlr:PartRow w vl l) (her:RowInts w ve .i64 (endsL l)) (hrb:BindRow w vq bs) :
  Calls Tryz.prog 19 #[ruleAgg r vh vf vb,vl,ve,vq] w fun e w'=>e=.returned (.bool (rightB r l bs))∧Below w.heap.size w w':=by
 have HQ:RowKit.Hid (∀ x w',rightB r l bs=x→Below w.heap.size w w'→(fun (e:Ending) w'=>e=.returned (.bool (rightB r l bs))∧Below w.heap.size w w') (.returned (.bool x)) w'):=Hd fun x w' h hb=>⟨by rw [h],hb⟩
 generalize (fun (e:Ending) w'=>e=.returned (.bool (rightB r l bs))∧Below w.heap.size w w')=Q at *
 obtain ⟨ah,ch,rfl,hch⟩:=Row.shape hin.H
 obtain ⟨af,cf,rfl,hcf⟩:=hin.F.slice
 obtain ⟨ab,cb,rfl,hcb⟩:=hin.B.slice
 obtain ⟨al,cl,rfl,hcl⟩:=hlr.slice
 obtain ⟨aq,cq,rfl,hcq⟩:=Row.shape hrb
 have HIN:=Hd hin
 have HLR:=Hd hlr
 have HER:=Hd her
 have HRB:=Hd hrb
 have HK:=Hd hk
 have HL:=Hd hl
 have HU:=Hd hus
 have hll:=hl.1
 have HR1:RowKit.Hid (RK (w.alloc (.cells #[.string r.nm,.int .u8 (r.goal:Int),.slice ah r.holes.length ch,.slice af r.fnd.length cf,.slice ab r.by'.length cb] 35)) w.heap.size r.nm r.goal (.slice ah r.holes.length ch) (.slice af r.fnd.length cf) (.slice ab r.by'.length cb)):=Hd (heap_alloc_new _ _)
 have HB1:RowKit.Hid (Below w.heap.size w (w.alloc (.cells #[.string r.nm,.int .u8 (r.goal:Int),.slice ah r.holes.length ch,.slice af r.fnd.length cf,.slice ab r.by'.length cb] 35))):=Hd ((Below.refl _ _).alloc (Nat.le_refl _) _)
 clear hin hlr her hrb hk hl hus
 unfold ruleAgg
 go_enter Tryz.func19,Tryz.ntmps19
 go_upto_region 1 with (fail)
 generalize w.alloc (.cells #[.string r.nm,.int .u8 (r.goal:Int),.slice ah r.holes.length ch,.slice af r.fnd.length cf,.slice ab r.by'.length cb] 35)=W1 at *
 obtain ⟨e0,e1,e2,e3,e4⟩:=HR1.out.cells
 by_cases hn:bs.length=r.holes.length
 case neg =>
  have g1:((bs.length:Int) != (r.holes.length:Int))=true:=by rw [bne_iff_ne];omega
  have g2:(bs.length != r.holes.length)=true:=by rw [bne_iff_ne];exact hn
  have HX:=Hd (HQ.out false W1 (right_len hn) HB1.out)
  clear hn
  go_wp2_with fail
  exact HX.out
 have HN:=Hd hn
 have g1:((bs.length:Int) != (r.holes.length:Int))=false:=by rw [bne_eq_false_iff_eq];omega
 have g2:(bs.length != r.holes.length)=false:=by rw [bne_eq_false_iff_eq];exact hn
 clear hn
 go_wp2_with fail
 clear g1 g2 e0 e1 e2 e3 e4
 go_loopw [22] (fun nv wr=>rtRel r l bs W1 nv wr) (fun nv _=>bs.length-(intOf nv).toNat)
 case atStart=>exact ⟨0,rfl,Nat.zero_le _,fun i hh hb hi=>absurd hi (Nat.not_lt_zero _),Below.refl _ _⟩
 case round =>
  obtain ⟨n,rfl,hn,hrt,hb⟩:=hrel
  have HB:=Hd hb
  have HRT:=Hd hrt
  clear hb hrt
  by_cases hlt:n<bs.length
  case neg =>
   obtain rfl:n=bs.length:=by omega
   have HX:=Hd (HQ.out true wr (right_yes HN.out HRT.out) (bthen HB1.out HB.out))
   go_wp2_with fail
   exact HX.out
  have hnh:n<r.holes.length:=by have:=HN.out;omega
  have HNO:RowKit.Hid (∀ w',okB l r.holes[n] bs[n]=false→Below w.heap.size w w'→Q (.returned (.bool false)) w'):=Hd fun w' h hb=>HQ.out false w' (right_no hnh hlt h) hb
  have HYE:RowKit.Hid (∀ w',okB l r.holes[n] bs[n]=true→Below W1.heap.size W1 w'→rtRel r l bs W1 (.int .i64 ((n:Int)+1)) w'):=Hd fun w' h hb=>⟨n+1,by push_cast;rfl,hlt,HRT.out.next (fun _ _=>h),hb⟩
  have hkk:=HK.out _ (List.getElem_mem hnh)
  obtain ⟨qb,qo,rfl,y1,y2,y3,hqc⟩:=HRB.out.at (bthen HB1.out HB.out) (show 0<bs.length by omega)
  clear y1 y2 y3
  obtain ⟨d0,d1,d2⟩:=hqc n hlt
  clear hqc
  have HBD:RowKit.Hid (BdK (wr.alloc (.cells #[.string (bs[n]).1,.int .i64 (bs[n]).2.1,.int .i64 (bs[n]).2.2] 48)) wr.heap.size bs[n]):=Hd (heap_alloc_new _ _)
  have HB2:RowKit.Hid (Below wr.heap.size wr (wr.alloc (.cells #[.string (bs[n]).1,.int .i64 (bs[n]).2.1,.int .i64 (bs[n]).2.2] 48))):=Hd ((Below.refl _ _).alloc (Nat.le_refl _) _)
  have hn0:(0:Int)≤(n:Int):=by omega
  have hnl:(n:Int)<bs.length:=by omega
  have hnc:(n:Int)<cq:=by omega
  have hnl2:(n:Int)<r.holes.length:=by omega
  have hnc2:(n:Int)<ch:=by omega
  generalize bs[n]=bb at *
  obtain ⟨bn,bf,bt⟩:=bb
  simp only [] at d0 d1 d2 HBD HB2
  go_upto_region 6 with (fail)
  clear d0 d1 d2
  generalize wr.alloc (.cells #[.string bn,.int .i64 bf,.int .i64 bt] 48)=W2 at *
  have HB12:=Hd (bthen HB.out HB2.out)
  have HBP:=Hd (fun (W':World) (hb:Below W2.heap.size W2 W')=>HBD.out.keep hb)
  clear HB2 HBD
  generalize wr.heap.size=gb at *
  obtain ⟨e0,e1,e2,e3,e4⟩:=(HR1.out.below HB12.out).cells
  obtain ⟨kb,ko,rfl,y1,y2,y3,hkc⟩:=HIN.out.H.at (bthen HB1.out HB12.out) (show 0<r.holes.length by omega)
  clear y1 y2 y3
  obtain ⟨k0,k1⟩:=hkc n hnh
  clear hkc
  have HHO:RowKit.Hid (HoK (W2.alloc (.cells #[.string (r.holes[n]).1,.int .u8 ((r.holes[n]).2:Int)] 43)) W2.heap.size r.holes[n]):=Hd (heap_alloc_new _ _)
  have HB3:RowKit.Hid (Below W2.heap.size W2 (W2.alloc (.cells #[.string (r.holes[n]).1,.int .u8 ((r.holes[n]).2:Int)] 43))):=Hd ((Below.refl _ _).alloc (Nat.le_refl _) _)
  generalize r.holes[n]=hh at *
  obtain ⟨hn,hk⟩:=hh
  simp only [] at k0 k1 HHO HB3 hkk
  go_upto_region 7 with (fail)
  clear e0 e1 e2 e3 e4 k0 k1
  generalize W2.alloc (.cells #[.string hn,.int .u8 (hk:Int)] 43)=W4 at *
  have HB4:=Hd (bthen HB12.out HB3.out)
  have HB4w:=Hd (bthen HB1.out HB4.out)
  have HHW:=Hd (fun (W':World) (hb:Below W4.heap.size W4 W')=>(HHO.out.keep hb).cells)
  have HBW:=Hd (fun (W':World) (hb:Below W4.heap.size W4 W')=>(HBP.out W' (bthen HB3.out hb)).cells)
  clear HB3 HHO HBP HB12
  generalize W2.heap.size=gh at *
  obtain ⟨k0,k1⟩:=HHW.out W4 (Below.refl _ _)
  obtain ⟨b0,b1,b2⟩:=HBW.out W4 (Below.refl _ _)
  simp only [] at k0 k1 b0 b1 b2
  have gq:(bn.toList == hn.toList)=decide (bn=hn):=bytes_eqR
  by_cases hne:bn=hn
  case neg =>
   have HX:=Hd (HNO.out W4 (okB_name hne) HB4w.out)
   rw [decide_eq_false hne] at gq
   have gq2:(bn.toList != hn.toList)=true:=by simp [bne,gq]
   clear hne
   go_wp2_with fail
   exact HX.out
  rw [decide_eq_true hne] at gq
  have gq2:(bn.toList != hn.toList)=false:=by simp [bne,gq]
  have HNE:=Hd hne
  clear hne
  by_cases f1:bf<0
  case pos =>
   have HX:=Hd (HNO.out W4 (okB_rng (fun h=>by have:=h.1;simp only [] at this;omega)) HB4w.out)
   go_wp2_with fail
   exact HX.out
  obtain ⟨a,rfl⟩:∃ a:Nat,bf=(a:Int):=⟨bf.toNat,by omega⟩
  by_cases f2:bt<(a:Int)
  case pos =>
   have HX:=Hd (HNO.out W4 (okB_rng (fun h=>by have:=h.2.1;simp only [] at this;omega)) HB4w.out)
   go_wp2_with fail
   exact HX.out
  obtain ⟨b,rfl⟩:∃ b:Nat,bt=(b:Int):=⟨bt.toNat,by omega⟩
  by_cases f3:(l.length:Int)<(b:Int)
  case pos =>
   have HX:=Hd (HNO.out W4 (okB_rng (fun h=>by have:=h.2.2;simp only [] at this;omega)) HB4w.out)
   go_wp2_with fail
   exact HX.out
  have hab:a≤b:=by omega
  have hbl:b≤l.length:=by omega
  have CT:=Hd (fill_trees l (by omega) us HU.out ve a b hab hbl W4 (HER.out.below HB4w.out))
  go_upto_region 9 with (fail)
  go_wp2_with fail
  refine CT.out.mono ?_
  rintro e w5 ⟨⟨k,x,hkl,rfl,h1,h2⟩,rfl⟩
  clear CT f1 f2 f3 gq gq2
  have hpa:((a:Int)).toNat=a:=by omega
  have hpb:((b:Int)).toNat=b:=by omega
  have HS0:RowKit.Hid (∀ W,Below W4.heap.size W4 W→(fun W=>W.cell? ⟨gh,0,none⟩=some (.string hn)∧W.cell? ⟨gh,1,none⟩=some (.int .u8 (hk:Int))∧W.cell? ⟨gb,1,none⟩=some (.int .i64 (a:Int))∧RowKit.Hid (Below W4.heap.size W4 W)) W):=Hd fun W hb=>⟨(HHW.out W hb).1,(HHW.out W hb).2,(HBW.out W hb).2.1,Hd hb⟩
  have CS:=Hd (fun W=>fill_several hn hk W)
  have HHK:=Hd hkk
  clear b0 b1 b2 k0 k1 hkk
  cases x with
  | false =>
   have h2:=h2 rfl
   have HX:=Hd (HNO.out W4.drew (okB_trees (by simp only [hpa,hpb];omega)) (bthen HB4w.out (Below.refl _ _).drew))
   clear h1 h2
   go_upto_region 10 with (fail)
   refine wp_region_noPanic ?_
   refine wp_region_held_drew (S:=(fun W=>W.cell? ⟨gh,0,none⟩=some (.string hn)∧W.cell? ⟨gh,1,none⟩=some (.int .u8 (hk:Int))∧W.cell? ⟨gb,1,none⟩=some (.int .i64 (a:Int))∧RowKit.Hid (Below W4.heap.size W4 W))) (by kernel_rfl) (HS0.out _ (Below.refl _ _).drew) (fun hHeldA=>?_)
   refine tkH 0 65 ?vA0 rfl (by kernel_rfl) (fun _ _ _ h=>h) (Or.inl ⟨by kernel_rfl,?hyA0⟩) hHeldA ?restA0
   case hyA0=>intro w hSw;(try dsimp only at hSw);go_simp;(try with_reducible rfl)
   (try simp only [aP])
   refine tkH 1 66 ?vA1 rfl (by kernel_rfl) (fun _ _ _ h=>h) (Or.inl ⟨by kernel_rfl,?hyA1⟩) hHeldA ?restA1
   case hyA1=>intro w hSw;(try dsimp only at hSw);go_simp;(try with_reducible rfl)
   (try simp only [aP])
   refine tkH 2 67 ?vA2 rfl (by kernel_rfl) (fun _ _ _ h=>h) (Or.inl ⟨by kernel_rfl,?hyA2⟩) hHeldA ?restA2
   case hyA2=>intro w hSw;(try dsimp only at hSw);go_simp;(try with_reducible rfl)
   (try simp only [aP])
   refine tkH 3 68 undef rfl (by kernel_rfl) (fun _ _ _ h=>h) (Or.inr ⟨by kernel_rfl,rfl⟩) hHeldA ?_
   (try simp only [aP])
   refine wpAnyH_ready (rs:=[4]) (by kernel_rfl) (by simp) ?_
   refine AllReadyH.cons (o:=⟨some 69,_,_,_,_,_⟩) rfl (fun K hK=>?_) AllReadyH.nil
   rw [if_neg]
   rotate_left
   ·exact fun h=>Bool.noConfusion (h.symm.trans (by kernel_rfl:_=false))
   refine hK.out _ _ hHeldA (fun hHeldA_1=>?_)
   clear hK K hHeldA
   (try simp only [aP])
   refine tkH 5 70 undef rfl (by kernel_rfl) (fun _ _ _ h=>h) (Or.inr ⟨by kernel_rfl,rfl⟩) hHeldA_1 ?_
   (try simp only [aP])
   refine tkH 6 71 undef rfl (by kernel_rfl) (fun _ _ _ h=>h) (Or.inr ⟨by kernel_rfl,rfl⟩) hHeldA_1 ?_
   (try simp only [aP])
   refine tkH 7 72 undef rfl (by kernel_rfl) (fun _ _ _ h=>h) (Or.inr ⟨by kernel_rfl,rfl⟩) hHeldA_1 ?_
   (try simp only [aP])
   refine tkH 8 73 undef rfl (by kernel_rfl) (fun _ _ _ h=>h) (Or.inr ⟨by kernel_rfl,rfl⟩) hHeldA_1 ?_
   (try simp only [aP])
   refine tkH 9 74 undef rfl (by kernel_rfl) (fun _ _ _ h=>h) (Or.inr ⟨by kernel_rfl,rfl⟩) hHeldA_1 ?_
   (try simp only [aP])
   refine tkH 10 75 undef rfl (by kernel_rfl) (fun _ _ _ h=>h) (Or.inr ⟨by kernel_rfl,rfl⟩) hHeldA_1 ?_
   (try simp only [aP])
   refine tkH 11 76 undef rfl (by kernel_rfl) (fun _ _ _ h=>h) (Or.inr ⟨by kernel_rfl,rfl⟩) hHeldA_1 ?_
   (try simp only [aP])
   refine tkH 12 77 undef rfl (by kernel_rfl) (fun _ _ _ h=>h) (Or.inr ⟨by kernel_rfl,rfl⟩) hHeldA_1 ?_
   (try simp only [aP])
   refine tkH 13 78 undef rfl (by kernel_rfl) (fun _ _ _ h=>h) (Or.inr ⟨by kernel_rfl,rfl⟩) hHeldA_1 ?_
   (try simp only [aP])
   refine tkH 14 79 undef rfl (by kernel_rfl) (fun _ _ _ h=>h) (Or.inr ⟨by kernel_rfl,rfl⟩) hHeldA_1 ?_
   (try simp only [aP])
   refine tkH 15 80 undef rfl (by kernel_rfl) (fun _ _ _ h=>h) (Or.inr ⟨by kernel_rfl,rfl⟩) hHeldA_1 ?_
   (try simp only [aP])
   refine tkH 16 81 undef rfl (by kernel_rfl) (fun _ _ _ h=>h) (Or.inr ⟨by kernel_rfl,rfl⟩) hHeldA_1 ?_
   (try simp only [aP])
   refine tkH 17 82 undef rfl (by kernel_rfl) (fun _ _ _ h=>h) (Or.inr ⟨by kernel_rfl,rfl⟩) hHeldA_1 ?_
   (try simp only [aP])
   refine wpAnyH_ready (rs:=[18]) (by kernel_rfl) (by simp) ?_
   refine AllReadyH.cons (o:=⟨some 83,_,_,_,_,_⟩) rfl (fun K hK=>?_) AllReadyH.nil
   rw [if_neg]
   rotate_left
   ·exact fun h=>Bool.noConfusion (h.symm.trans (by kernel_rfl:_=false))
   refine hK.out _ _ hHeldA_1 (fun hHeldA_2=>?_)
   clear hK K hHeldA_1
   (try simp only [aP])
   refine tkH 19 84 undef rfl (by kernel_rfl) (fun _ _ _ h=>h) (Or.inr ⟨by kernel_rfl,rfl⟩) hHeldA_2 ?_
   (try simp only [aP])
   refine tkH 20 85 undef rfl (by kernel_rfl) (fun _ _ _ h=>h) (Or.inr ⟨by kernel_rfl,rfl⟩) hHeldA_2 ?_
   (try simp only [aP])
   refine tkH 21 86 undef rfl (by kernel_rfl) (fun _ _ _ h=>h) (Or.inr ⟨by kernel_rfl,rfl⟩) hHeldA_2 ?_
   (try simp only [aP])
   refine tkH 22 87 ?vA22 rfl (by kernel_rfl) (fun _ _ _ h=>h) (Or.inl ⟨by kernel_rfl,?hyA22⟩) hHeldA_2 ?restA22
   case hyA22=>intro w hSw;(try dsimp only at hSw);go_simp;(try with_reducible rfl)
   (try simp only [aP])
   refine wpAnyH_done (by kernel_rfl) ?_ _
   refine NoPanic.normal ?_
   go_wp2_with fail
   exact HX.out
  | true =>
   have HT:=Hd (h1 rfl)
   clear h1 h2
   cases hsv:isSev hk with
   | true =>
    rw [hsv] at CS
    have HYX:RowKit.Hid (∀ w',Below W1.heap.size W1 w'→rtRel r l bs W1 (.int .i64 ((n:Int)+1)) w'):=Hd fun w' hb=>HYE.out w' (okB_yes HNE.out ⟨by simp only [];omega,by simp only [];omega,by simp only [];omega⟩ (by simp only [hpa,hpb];rw [HT.out];omega) (fun h=>by simp only [] at h;rw [hsv] at h;cases h)) hb
    clear hsv
    go_upto_region 10 with (fail)
    refine wp_region_noPanic ?_
    refine wp_region_held_drew (S:=(fun W=>W.cell? ⟨gh,0,none⟩=some (.string hn)∧W.cell? ⟨gh,1,none⟩=some (.int .u8 (hk:Int))∧W.cell? ⟨gb,1,none⟩=some (.int .i64 (a:Int))∧RowKit.Hid (Below W4.heap.size W4 W))) (by kernel_rfl) (HS0.out _ (Below.refl _ _).drew) (fun hHeldB=>?_)
    refine tkH 0 65 ?vB0 rfl (by kernel_rfl) (fun _ _ _ h=>h) (Or.inl ⟨by kernel_rfl,?hyB0⟩) hHeldB ?restB0
    case hyB0=>intro w hSw;(try dsimp only at hSw);go_simp;(try with_reducible rfl)
    (try simp only [aP])
    refine tkH 1 66 ?vB1 rfl (by kernel_rfl) (fun _ _ _ h=>h) (Or.inl ⟨by kernel_rfl,?hyB1⟩) hHeldB ?restB1
    case hyB1=>intro w hSw;(try dsimp only at hSw);go_simp;(try with_reducible rfl)
    (try simp only [aP])
    refine tkH 2 67 ?vB2 rfl (by kernel_rfl) (fun _ _ _ h=>h) (Or.inl ⟨by kernel_rfl,?hyB2⟩) hHeldB ?restB2
    case hyB2=>intro w hSw;(try dsimp only at hSw);go_simp;(try with_reducible rfl)
    (try simp only [aP])
    refine tkH 3 68 ?vB3 rfl (by kernel_rfl) (fun _ _ _ h=>h) (Or.inl ⟨by kernel_rfl,?hyB3⟩) hHeldB ?restB3
    case hyB3=>intro w hSw;(try dsimp only at hSw);go_simp;(try with_reducible rfl)
    (try simp only [aP])
    refine wpAnyH_ready (rs:=[4]) (by kernel_rfl) (by simp) ?_
    refine AllReadyH.cons (o:=_) rfl (fun K hK=>?_) AllReadyH.nil
    go_simp
    go_at_call 35
    refine (CS.out _).mono ?_
    rintro e w5 ⟨rfl,hb5⟩
    have HB5:=Hd ((Below.refl W4.heap.size W4).drew.trans hb5)
    clear hb5
    (try dsimp only)
    refine hK.out _ _ (HS0.out _ HB5.out) (fun hHeldB_1=>?_)
    clear hK K hHeldB
    (try simp only [aP])
    refine tkH 5 70 ?vB5 rfl (by kernel_rfl) (fun _ _ _ h=>h) (Or.inl ⟨by kernel_rfl,?hyB5⟩) hHeldB_1 ?restB5
    case hyB5=>intro w hSw;(try dsimp only at hSw);go_simp;(try with_reducible rfl)
    (try simp only [aP])
    refine tkH 6 71 ?vB6 rfl (by kernel_rfl) (fun _ _ _ h=>h) (Or.inl ⟨by kernel_rfl,?hyB6⟩) hHeldB_1 ?restB6
    case hyB6=>intro w hSw;(try dsimp only at hSw);go_simp;(try with_reducible rfl)
    (try simp only [aP])
    refine tkH 7 72 undef rfl (by kernel_rfl) (fun _ _ _ h=>h) (Or.inr ⟨by kernel_rfl,rfl⟩) hHeldB_1 ?_
    (try simp only [aP])
    refine tkH 8 73 undef rfl (by kernel_rfl) (fun _ _ _ h=>h) (Or.inr ⟨by kernel_rfl,rfl⟩) hHeldB_1 ?_
    (try simp only [aP])
    refine tkH 9 74 undef rfl (by kernel_rfl) (fun _ _ _ h=>h) (Or.inr ⟨by kernel_rfl,rfl⟩) hHeldB_1 ?_
    (try simp only [aP])
    refine tkH 10 75 undef rfl (by kernel_rfl) (fun _ _ _ h=>h) (Or.inr ⟨by kernel_rfl,rfl⟩) hHeldB_1 ?_
    (try simp only [aP])
    refine tkH 11 76 undef rfl (by kernel_rfl) (fun _ _ _ h=>h) (Or.inr ⟨by kernel_rfl,rfl⟩) hHeldB_1 ?_
    (try simp only [aP])
    refine tkH 12 77 undef rfl (by kernel_rfl) (fun _ _ _ h=>h) (Or.inr ⟨by kernel_rfl,rfl⟩) hHeldB_1 ?_
    (try simp only [aP])
    refine tkH 13 78 undef rfl (by kernel_rfl) (fun _ _ _ h=>h) (Or.inr ⟨by kernel_rfl,rfl⟩) hHeldB_1 ?_
    (try simp only [aP])
    refine tkH 14 79 undef rfl (by kernel_rfl) (fun _ _ _ h=>h) (Or.inr ⟨by kernel_rfl,rfl⟩) hHeldB_1 ?_
    (try simp only [aP])
    refine tkH 15 80 undef rfl (by kernel_rfl) (fun _ _ _ h=>h) (Or.inr ⟨by kernel_rfl,rfl⟩) hHeldB_1 ?_
    (try simp only [aP])
    refine tkH 16 81 undef rfl (by kernel_rfl) (fun _ _ _ h=>h) (Or.inr ⟨by kernel_rfl,rfl⟩) hHeldB_1 ?_
    (try simp only [aP])
    refine tkH 17 82 undef rfl (by kernel_rfl) (fun _ _ _ h=>h) (Or.inr ⟨by kernel_rfl,rfl⟩) hHeldB_1 ?_
    (try simp only [aP])
    refine wpAnyH_ready (rs:=[18]) (by kernel_rfl) (by simp) ?_
    refine AllReadyH.cons (o:=⟨some 83,_,_,_,_,_⟩) rfl (fun K hK=>?_) AllReadyH.nil
    rw [if_neg]
    rotate_left
    ·exact fun h=>Bool.noConfusion (h.symm.trans (by kernel_rfl:_=false))
    refine hK.out _ _ hHeldB_1 (fun hHeldB_2=>?_)
    clear hK K hHeldB_1
    (try simp only [aP])
    refine tkH 19 84 undef rfl (by kernel_rfl) (fun _ _ _ h=>h) (Or.inr ⟨by kernel_rfl,rfl⟩) hHeldB_2 ?_
    (try simp only [aP])
    refine tkH 20 85 undef rfl (by kernel_rfl) (fun _ _ _ h=>h) (Or.inr ⟨by kernel_rfl,rfl⟩) hHeldB_2 ?_
    (try simp only [aP])
    refine tkH 21 86 ?vB21 rfl (by kernel_rfl) (fun _ _ _ h=>h) (Or.inl ⟨by kernel_rfl,?hyB21⟩) hHeldB_2 ?restB21
    case hyB21=>intro w hSw;(try dsimp only at hSw);go_simp;(try with_reducible rfl)
    (try simp only [aP])
    refine tkH 22 87 ?vB22 rfl (by kernel_rfl) (fun _ _ _ h=>h) (Or.inl ⟨by kernel_rfl,?hyB22⟩) hHeldB_2 ?restB22
    case hyB22=>intro w hSw;(try dsimp only at hSw);go_simp;(try with_reducible rfl)
    (try simp only [aP])
    refine wpAnyH_done (by kernel_rfl) ?_ _
    refine NoPanic.normal ?_
    have HX:=Hd (HYX.out w5 (bthen HB4.out HB5.out))
    go_wp2_with fail
    exact ⟨HX.out,by simp only [intOf];omega⟩
   | false =>
    rw [hsv] at CS
    by_cases hk1:k=1
    case neg =>
     have HX0:=Hd (fun w' hb=>HNO.out w' (okB_one hsv (by simp only [hpa,hpb];rw [HT.out];omega)) hb)
     have q1:((k:Int) != 1)=true:=by rw [bne_iff_ne];omega
     have q2:((k:Int) == 1)=false:=by rw [beq_eq_false_iff_ne];omega
     clear hsv hk1
     go_upto_region 10 with (fail)
     refine wp_region_noPanic ?_
     refine wp_region_held_drew (S:=(fun W=>W.cell? ⟨gh,0,none⟩=some (.string hn)∧W.cell? ⟨gh,1,none⟩=some (.int .u8 (hk:Int))∧W.cell? ⟨gb,1,none⟩=some (.int .i64 (a:Int))∧RowKit.Hid (Below W4.heap.size W4 W))) (by kernel_rfl) (HS0.out _ (Below.refl _ _).drew) (fun hHeldC=>?_)
     refine tkH 0 65 ?vC0 rfl (by kernel_rfl) (fun _ _ _ h=>h) (Or.inl ⟨by kernel_rfl,?hyC0⟩) hHeldC ?restC0
     case hyC0=>intro w hSw;(try dsimp only at hSw);go_simp;(try with_reducible rfl)
     (try simp only [aP])
     refine tkH 1 66 ?vC1 rfl (by kernel_rfl) (fun _ _ _ h=>h) (Or.inl ⟨by kernel_rfl,?hyC1⟩) hHeldC ?restC1
     case hyC1=>intro w hSw;(try dsimp only at hSw);go_simp;(try with_reducible rfl)
     (try simp only [aP])
     refine tkH 2 67 ?vC2 rfl (by kernel_rfl) (fun _ _ _ h=>h) (Or.inl ⟨by kernel_rfl,?hyC2⟩) hHeldC ?restC2
     case hyC2=>intro w hSw;(try dsimp only at hSw);go_simp;(try with_reducible rfl)
     (try simp only [aP])
     refine tkH 3 68 ?vC3 rfl (by kernel_rfl) (fun _ _ _ h=>h) (Or.inl ⟨by kernel_rfl,?hyC3⟩) hHeldC ?restC3
     case hyC3=>intro w hSw;(try dsimp only at hSw);go_simp;(try with_reducible rfl)
     (try simp only [aP])
     refine wpAnyH_ready (rs:=[4]) (by kernel_rfl) (by simp) ?_
     refine AllReadyH.cons (o:=_) rfl (fun K hK=>?_) AllReadyH.nil
     go_simp
     go_at_call 35
     refine (CS.out _).mono ?_
     rintro e w5 ⟨rfl,hb5⟩
     have HB5:=Hd ((Below.refl W4.heap.size W4).drew.trans hb5)
     clear hb5
     (try dsimp only)
     refine hK.out _ _ (HS0.out _ HB5.out) (fun hHeldC_1=>?_)
     clear hK K hHeldC
     (try simp only [aP])
     refine tkH 5 70 ?vC5 rfl (by kernel_rfl) (fun _ _ _ h=>h) (Or.inl ⟨by kernel_rfl,?hyC5⟩) hHeldC_1 ?restC5
     case hyC5=>intro w hSw;(try dsimp only at hSw);go_simp;(try with_reducible rfl)
     (try simp only [aP])
     refine tkH 6 71 ?vC6 rfl (by kernel_rfl) (fun _ _ _ h=>h) (Or.inl ⟨by kernel_rfl,?hyC6⟩) hHeldC_1 ?restC6
     case hyC6=>intro w hSw;(try dsimp only at hSw);go_simp;(try with_reducible rfl)
     (try simp only [aP])
     refine tkH 7 72 ?vC7 rfl (by kernel_rfl) (fun _ _ _ h=>h) (Or.inl ⟨by kernel_rfl,?hyC7⟩) hHeldC_1 ?restC7
     case hyC7=>intro w hSw;(try dsimp only at hSw);go_simp;(try with_reducible rfl)
     (try simp only [aP])
     refine tkH 8 73 ?vC8 rfl (by kernel_rfl) (fun _ _ _ h=>h) (Or.inl ⟨by kernel_rfl,?hyC8⟩) hHeldC_1 ?restC8
     case hyC8=>intro w hSw;(try dsimp only at hSw);go_simp;(try with_reducible rfl)
     (try simp only [aP])
     refine tkH 9 74 ?vC9 rfl (by kernel_rfl) (fun _ _ _ h=>h) (Or.inl ⟨by kernel_rfl,?hyC9⟩) hHeldC_1 ?restC9
     case hyC9=>intro w hSw;(try dsimp only at hSw);go_simp;(try with_reducible rfl)
     (try simp only [aP])
     refine tkH 10 75 undef rfl (by kernel_rfl) (fun _ _ _ h=>h) (Or.inr ⟨by kernel_rfl,rfl⟩) hHeldC_1 ?_
     (try simp only [aP])
     refine tkH 11 76 undef rfl (by kernel_rfl) (fun _ _ _ h=>h) (Or.inr ⟨by kernel_rfl,rfl⟩) hHeldC_1 ?_
     (try simp only [aP])
     refine tkH 12 77 undef rfl (by kernel_rfl) (fun _ _ _ h=>h) (Or.inr ⟨by kernel_rfl,rfl⟩) hHeldC_1 ?_
     (try simp only [aP])
     refine tkH 13 78 undef rfl (by kernel_rfl) (fun _ _ _ h=>h) (Or.inr ⟨by kernel_rfl,rfl⟩) hHeldC_1 ?_
     (try simp only [aP])
     refine tkH 14 79 undef rfl (by kernel_rfl) (fun _ _ _ h=>h) (Or.inr ⟨by kernel_rfl,rfl⟩) hHeldC_1 ?_
     (try simp only [aP])
     refine tkH 15 80 undef rfl (by kernel_rfl) (fun _ _ _ h=>h) (Or.inr ⟨by kernel_rfl,rfl⟩) hHeldC_1 ?_
     (try simp only [aP])
     refine tkH 16 81 undef rfl (by kernel_rfl) (fun _ _ _ h=>h) (Or.inr ⟨by kernel_rfl,rfl⟩) hHeldC_1 ?_
     (try simp only [aP])
     refine tkH 17 82 undef rfl (by kernel_rfl) (fun _ _ _ h=>h) (Or.inr ⟨by kernel_rfl,rfl⟩) hHeldC_1 ?_
     (try simp only [aP])
     refine wpAnyH_ready (rs:=[18]) (by kernel_rfl) (by simp) ?_
     refine AllReadyH.cons (o:=⟨some 83,_,_,_,_,_⟩) rfl (fun K hK=>?_) AllReadyH.nil
     rw [if_neg]
     rotate_left
     ·exact fun h=>Bool.noConfusion (h.symm.trans (by kernel_rfl:_=false))
     refine hK.out _ _ hHeldC_1 (fun hHeldC_2=>?_)
     clear hK K hHeldC_1
     (try simp only [aP])
     refine tkH 19 84 undef rfl (by kernel_rfl) (fun _ _ _ h=>h) (Or.inr ⟨by kernel_rfl,rfl⟩) hHeldC_2 ?_
     (try simp only [aP])
     refine tkH 20 85 ?vC20 rfl (by kernel_rfl) (fun _ _ _ h=>h) (Or.inl ⟨by kernel_rfl,?hyC20⟩) hHeldC_2 ?restC20
     case hyC20=>intro w hSw;(try dsimp only at hSw);go_simp;(try with_reducible rfl)
     (try simp only [aP])
     refine tkH 21 86 ?vC21 rfl (by kernel_rfl) (fun _ _ _ h=>h) (Or.inl ⟨by kernel_rfl,?hyC21⟩) hHeldC_2 ?restC21
     case hyC21=>intro w hSw;(try dsimp only at hSw);go_simp;(try with_reducible rfl)
     (try simp only [aP])
     refine tkH 22 87 ?vC22 rfl (by kernel_rfl) (fun _ _ _ h=>h) (Or.inl ⟨by kernel_rfl,?hyC22⟩) hHeldC_2 ?restC22
     case hyC22=>intro w hSw;(try dsimp only at hSw);go_simp;(try with_reducible rfl)
     (try simp only [aP])
     refine wpAnyH_done (by kernel_rfl) ?_ _
     refine NoPanic.normal ?_
     have HX:=Hd (HX0.out w5 (bthen HB4w.out HB5.out))
     go_wp2_with fail
     exact HX.out
    subst hk1
    have hlt2:a<b:=by
     apply Classical.byContradiction
     intro hc
     obtain rfl:a=b:=by omega
     have:=HT.out
     unfold piece at this
     rw [Nat.sub_self,List.take_zero] at this
     cases this
    have hall:a<l.length:=by omega
    obtain ⟨lb,lo,rfl,y1,y2,y3,hlc⟩:=HLR.out.at (Below.refl _ _) (show 0<l.length by omega)
    clear y1 y2 y3 hlc
    have HS1:RowKit.Hid (∀ W,Below W4.heap.size W4 W→(fun W=>W.cell? ⟨gh,0,none⟩=some (.string hn)∧W.cell? ⟨gh,1,none⟩=some (.int .u8 (hk:Int))∧W.cell? ⟨gb,1,none⟩=some (.int .i64 (a:Int))∧W.cell? ⟨lb,lo+a*3,none⟩=some (.int .u8 (kindAt l a:Int))∧RowKit.Hid (Below W4.heap.size W4 W)) W):=Hd fun W hb=>⟨(HHW.out W hb).1,(HHW.out W hb).2,(HBW.out W hb).2.1,by
     obtain ⟨b2,o2,e',_,_,_,hcc⟩:=HLR.out.at (bthen HB4w.out hb) (show 0<l.length by omega)
     simp only [Option.some.injEq,Addr.mk.injEq,and_true] at e'
     obtain ⟨rfl,rfl⟩:=e'
     rw [(hcc a hall).1]
     unfold kindAt
     rw [List.getElem?_eq_getElem hall],Hd hb⟩
    have hkl2:kindAt l a<256:=by
     unfold kindAt
     rw [List.getElem?_eq_getElem hall]
     exact (HL.out.2 _ (List.getElem_mem hall)).1
    have h15:1≤hk∧hk≤5:=by
     have:=HHK.out
     unfold isSev at hsv
     simp at hsv
     omega
    have CM:=Hd (fun W=>fill_may hk (kindAt l a) h15.1 h15.2 hkl2 W)
    have HMY:RowKit.Hid (mayB hk (kindAt l a)=true→∀ w',Below W1.heap.size W1 w'→rtRel r l bs W1 (.int .i64 ((n:Int)+1)) w'):=Hd fun hm w' hb=>HYE.out w' (okB_yes HNE.out ⟨by simp only [];omega,by simp only [];omega,by simp only [];omega⟩ (by simp only [hpa,hpb];rw [HT.out];omega) (fun _=>⟨by simp only [hpa,hpb];exact HT.out,by simp only [hpa];exact hm⟩)) hb
    have HMN:RowKit.Hid (mayB hk (kindAt l a)=false→∀ w',Below w.heap.size w w'→Q (.returned (.bool false)) w'):=Hd fun hm w' hb=>HNO.out w' (okB_may hsv (by simp only [hpa];exact hm)) hb
    have ha0:(0:Int)≤(a:Int):=by omega
    have hal:(a:Int)<l.length:=by omega
    have halc:(a:Int)<cl:=by omega
    clear hsv hkl2 h15
    generalize kindAt l a=y at *
    go_upto_region 10 with (fail)
    cases hm:mayB hk y with
    | true =>
     rw [hm] at CM
     go_region_held3 (fun W=>W.cell? ⟨gh,0,none⟩=some (.string hn)∧W.cell? ⟨gh,1,none⟩=some (.int .u8 (hk:Int))∧W.cell? ⟨gb,1,none⟩=some (.int .i64 (a:Int))∧W.cell? ⟨lb,lo+a*3,none⟩=some (.int .u8 (y:Int))∧RowKit.Hid (Below W4.heap.size W4 W)) (first | exact HS1.out _ (Below.refl _ _).drew | exact HS1.out _ HB5.out) (first | ((go_at_call 35;(with_reducible refine (CS.out _).mono ?_);(rintro e w5 ⟨rfl,hb5⟩);have HB5:=Hd ((Below.refl W4.heap.size W4).drew.trans hb5);(try dsimp only))) | ((go_at_call 36;(with_reducible refine (CM.out _).mono ?_);(rintro e w6 ⟨rfl,rfl⟩);(try dsimp only))))
     have HX:=Hd (HMY.out hm w5 (bthen HB4.out HB5.out))
     go_wp2_with fail
     exact ⟨HX.out,by simp only [intOf];omega⟩
    | false =>
     rw [hm] at CM
     go_region_held3 (fun W=>W.cell? ⟨gh,0,none⟩=some (.string hn)∧W.cell? ⟨gh,1,none⟩=some (.int .u8 (hk:Int))∧W.cell? ⟨gb,1,none⟩=some (.int .i64 (a:Int))∧W.cell? ⟨lb,lo+a*3,none⟩=some (.int .u8 (y:Int))∧RowKit.Hid (Below W4.heap.size W4 W)) (first | exact HS1.out _ (Below.refl _ _).drew | exact HS1.out _ HB5.out) (first | ((go_at_call 35;(with_reducible refine (CS.out _).mono ?_);(rintro e w5 ⟨rfl,hb5⟩);have HB5:=Hd ((Below.refl W4.heap.size W4).drew.trans hb5);(try dsimp only))) | ((go_at_call 36;(with_reducible refine (CM.out _).mono ?_);(rintro e w6 ⟨rfl,rfl⟩);(try dsimp only))))
     have HX:=Hd (HMN.out hm w5 (bthen HB4w.out HB5.out))
     go_wp2_with fail
     exact HX.out
end Go.Proofs.YtmklemelgdilkaaGreatDoor
