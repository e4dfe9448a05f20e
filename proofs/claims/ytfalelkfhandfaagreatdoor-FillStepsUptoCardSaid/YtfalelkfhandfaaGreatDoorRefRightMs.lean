/- Layer 20, the reference: Right, walked (printed by tools/genrefright.py). -/
import Derived.Test.YtfalelkfhandfaaGreatDoorPackMs
import Derived.Test.YtfalelkfhandfaaGreatDoorRightWMs
import Derived.Test.YtfalelkfhandfaaGreatDoorTreesFMs
import Derived.Test.YtfalelkfhandfaaGreatDoorTermMs
import Derived.Test.YtfalelkfhandfaaGreatDoorStillMs
import Derived.Deep.RegionHeld3
namespace Go.Proofs.YtfalelkfhandfaaGreatDoor
set_option maxRecDepth 100000
set_option maxHeartbeats 32000000
set_option linter.all false
attribute [local irreducible] Calls
attribute [local irreducible] wpStill
open Go.RowKit

def rrRel (r:RuleM) (l:List Prt) (bs:List Bnd) (w1:World) (nv:Value) (wr:World):Prop:=∃ n:Nat,nv=.int .i64 (n:Int)∧n≤bs.length∧RightTo r l bs n∧Below w1.heap.size w1 wr
theorem zUm (r:RuleM) (hk:∀ h∈r.holes,1≤h.2∧h.2≤7) (hhl:r.holes.length≤1048576) (vh vf vb:Value) (l:List Prt) (hl:SmallL l) (vl vq:Value) (bs:List Bnd) (hbl:bs.length≤1048576) (w:World) (hin:RuleIn w r vh vf vb) (hlr:zD w vl l) (hrb:BindRow w vq bs) :
  Calls Tryz.prog 24 #[ruleAgg r vh vf vb,vl,vq] w fun e w'=>e=.returned (.bool (rightB r l bs))∧Below w.heap.size w w':=by
 have HQ:Hid (∀ x w',rightB r l bs=x→Below w.heap.size w w'→(fun (e:Ending) w'=>e=.returned (.bool (rightB r l bs))∧Below w.heap.size w w') (.returned (.bool x)) w'):=Hd fun x w' h hb=>⟨by rw [h],hb⟩
 generalize (fun (e:Ending) w'=>e=.returned (.bool (rightB r l bs))∧Below w.heap.size w w')=Q at *
 obtain ⟨ah,ch,rfl,hch⟩:=Row.shape hin.H
 obtain ⟨af,cf,rfl,hcf⟩:=hin.F.slice
 obtain ⟨ab,cb,rfl,hcb⟩:=hin.B.slice
 obtain ⟨al,cl,rfl,hcl⟩:=hlr.slice
 obtain ⟨aq,cq,rfl,hcq⟩:=Row.shape hrb
 have HIN:=Hd hin
 have HLR:=Hd hlr
 have HRB:=Hd hrb
 have HK:=Hd hk
 have HL:=Hd hl
 have hll:=hl.1
 have HR1:Hid (RK (w.alloc (.cells #[.string r.nm,.int .u8 (r.goal:Int),.slice ah r.holes.length ch,.slice af r.fnd.length cf,.slice ab r.by'.length cb] 36)) w.heap.size r.nm r.goal (.slice ah r.holes.length ch) (.slice af r.fnd.length cf) (.slice ab r.by'.length cb)):=Hd (heap_alloc_new _ _)
 have HB1:Hid (Below w.heap.size w (w.alloc (.cells #[.string r.nm,.int .u8 (r.goal:Int),.slice ah r.holes.length ch,.slice af r.fnd.length cf,.slice ab r.by'.length cb] 36))):=Hd ((Below.refl _ _).alloc (Nat.le_refl _) _)
 clear hin hlr hrb hk hl
 unfold ruleAgg
 go_enter Tryz.func24,Tryz.ntmps24
 go_upto_region 1 with (fail)
 generalize w.alloc (.cells #[.string r.nm,.int .u8 (r.goal:Int),.slice ah r.holes.length ch,.slice af r.fnd.length cf,.slice ab r.by'.length cb] 36)=W1 at *
 obtain ⟨gr,hgr⟩:∃ gr,w.heap.size=gr:=⟨_,rfl⟩
 have HGR:=Hd hgr
 rw [hgr] at HR1 ⊢
 clear hgr
 obtain ⟨e0,e1,e2,e3,e4⟩:=HR1.out.cells
 by_cases hn:bs.length=r.holes.length
 case neg =>
  have g1:((bs.length:Int) != (r.holes.length:Int))=true:=by rw [bne_iff_ne];omega
  have g2:(bs.length != r.holes.length)=true:=by rw [bne_iff_ne];exact hn
  have HX:=Hd (HQ.out false W1 (zKp hn) HB1.out)
  clear hn
  go_wp2_with fail
  exact HX.out
 have HN:=Hd hn
 have g1:((bs.length:Int) != (r.holes.length:Int))=false:=by rw [bne_eq_false_iff_eq];omega
 have g2:(bs.length != r.holes.length)=false:=by rw [bne_eq_false_iff_eq];exact hn
 clear hn
 go_wp2_with fail
 clear g1 g2 e0 e1 e2 e3 e4
 go_loopw [7] (fun nv wr=>rrRel r l bs W1 nv wr) (fun nv _=>bs.length-(intOf nv).toNat)
 case atStart=>exact ⟨0,rfl,Nat.zero_le _,fun i hh hb hi=>absurd hi (Nat.not_lt_zero _),Below.refl _ _⟩
 case round =>
  obtain ⟨n,rfl,hn,hrt,hb⟩:=hrel
  have HB:=Hd hb
  have HRT:=Hd hrt
  clear hb hrt
  by_cases hlt:n<bs.length
  case neg =>
   obtain rfl:n=bs.length:=by omega
   have HX:=Hd (HQ.out true wr (zKq HN.out HRT.out) (zB HB1.out HB.out))
   go_wp2_with fail
   exact HX.out
  have hnh:n<r.holes.length:=by have:=HN.out;omega
  have HNO:Hid (∀ w',okB l r.holes[n] bs[n]=false→Below w.heap.size w w'→Q (.returned (.bool false)) w'):=Hd fun w' h hb=>HQ.out false w' (zPb hnh hlt h) hb
  have HYE:Hid (∀ w',okB l r.holes[n] bs[n]=true→Below W1.heap.size W1 w'→rrRel r l bs W1 (.int .i64 ((n:Int)+1)) w'):=Hd fun w' h hb=>⟨n+1,by push_cast;rfl,hlt,HRT.out.next (fun _ _=>h),hb⟩
  have hkk:=HK.out _ (List.getElem_mem hnh)
  obtain ⟨qb,qo,rfl,y1,y2,y3,hqc⟩:=HRB.out.at (zB HB1.out HB.out) (show 0<bs.length by omega)
  clear y1 y2 y3
  obtain ⟨d0,d1,d2⟩:=hqc n hlt
  clear hqc
  have HBD:Hid (BdK (wr.alloc (.cells #[.string (bs[n]).1,.int .i64 (bs[n]).2.1,.int .i64 (bs[n]).2.2] 52)) wr.heap.size bs[n]):=Hd (heap_alloc_new _ _)
  have HB2:Hid (Below wr.heap.size wr (wr.alloc (.cells #[.string (bs[n]).1,.int .i64 (bs[n]).2.1,.int .i64 (bs[n]).2.2] 52))):=Hd ((Below.refl _ _).alloc (Nat.le_refl _) _)
  have hn0:(0:Int)≤(n:Int):=by omega
  have hnl:(n:Int)<bs.length:=by omega
  have hnc:(n:Int)<cq:=by omega
  have hnl2:(n:Int)<r.holes.length:=by omega
  have hnc2:(n:Int)<ch:=by omega
  generalize bs[n]=bb at *
  obtain ⟨bn,bf,bt⟩:=bb
  simp only [] at d0 d1 d2 HBD HB2
  go_upto_region 7 with (fail)
  clear d0 d1 d2
  generalize wr.alloc (.cells #[.string bn,.int .i64 bf,.int .i64 bt] 52)=W2 at *
  have HB12:=Hd (zB HB.out HB2.out)
  have HB12w:=Hd (zB HB1.out HB12.out)
  have HBW:=Hd (fun (W':World) (hb:Below W2.heap.size W2 W')=>(HBD.out.keep hb).cells)
  have HRW:=Hd (fun (W':World) (hb:Below W2.heap.size W2 W')=>(HR1.out.below (zB HB12.out hb)).cells.2.2.1)
  clear HB2 HBD
  generalize wr.heap.size=gb at *
  obtain ⟨kb,ko,rfl,y1,y2,y3,hkc⟩:=HIN.out.H.at HB12w.out (show 0<r.holes.length by omega)
  clear y1 y2 y3 hkc
  have HHW:Hid (∀ W',Below W2.heap.size W2 W'→W'.cell? ⟨kb,ko+n*2,none⟩=some (.string (r.holes[n]).1)∧W'.cell? ⟨kb,ko+n*2+1,none⟩=some (.int .u8 ((r.holes[n]).2:Int))):=Hd fun W' hb=>by
   obtain ⟨b2,o2,e',_,_,_,hcc⟩:=HIN.out.H.at (zB HB12w.out hb) (show 0<r.holes.length by omega)
   simp only [Option.some.injEq,Addr.mk.injEq,and_true] at e'
   obtain ⟨rfl,rfl⟩:=e'
   exact hcc n hnh
  generalize r.holes[n]=hh at *
  obtain ⟨hn,hk⟩:=hh
  simp only [] at HHW hkk HBW
  obtain ⟨k0,k1⟩:=HHW.out W2.drew (Below.refl _ _).drew
  obtain ⟨b0,b1,b2⟩:=HBW.out W2.drew (Below.refl _ _).drew
  have r2:=HRW.out W2.drew (Below.refl _ _).drew
  have HB12d:=Hd (zB HB12w.out (Below.refl _ _).drew)
  have gq:(bn.toList == hn.toList)=decide (bn=hn):=zCg
  by_cases hne:bn=hn
  case neg =>
   have HX:=Hd (HNO.out W2.drew (zPc hne) HB12d.out)
   rw [decide_eq_false hne] at gq
   have gq2:(bn.toList != hn.toList)=true:=by simp [bne,gq]
   clear hne
   go_still_tail 27,(by kernel_rfl)
   go_wp2_with fail
   exact HX.out
  rw [decide_eq_true hne] at gq
  have gq2:(bn.toList != hn.toList)=false:=by simp [bne,gq]
  have HNE:=Hd hne
  clear hne
  by_cases f1:bf<0
  case pos =>
   have HX:=Hd (HNO.out W2.drew (zCf (fun h=>by have:=h.1;simp only [] at this;omega)) HB12d.out)
   go_still_tail 27,(by kernel_rfl)
   go_wp2_with fail
   exact HX.out
  obtain ⟨a,rfl⟩:∃ a:Nat,bf=(a:Int):=⟨bf.toNat,by omega⟩
  by_cases f2:bt<(a:Int)
  case pos =>
   have HX:=Hd (HNO.out W2.drew (zCf (fun h=>by have:=h.2.1;simp only [] at this;omega)) HB12d.out)
   go_still_tail 27,(by kernel_rfl)
   go_wp2_with fail
   exact HX.out
  obtain ⟨b,rfl⟩:∃ b:Nat,bt=(b:Int):=⟨bt.toNat,by omega⟩
  by_cases f3:(l.length:Int)<(b:Int)
  case pos =>
   have HX:=Hd (HNO.out W2.drew (zCf (fun h=>by have:=h.2.2;simp only [] at this;omega)) HB12d.out)
   go_still_tail 27,(by kernel_rfl)
   go_wp2_with fail
   exact HX.out
  have hab:a≤b:=by omega
  have hbl:b≤l.length:=by omega
  obtain ⟨sp,sc,hsl,hpr⟩:=zFm w (.slice al l.length cl) l HLR.out a b hab hbl
  have hpl:(piece l a b).length≤1000000000:=by unfold piece;rw [List.length_take,List.length_drop];omega
  have CT:=Hd (fN (piece l a b) hpl _ W2.drew (hpr.below HB12d.out))
  clear hpl hpr
  go_still_tail 27,(by kernel_rfl)
  go_wp2_with fail
  refine CT.out.mono ?_
  rintro e w5 ⟨rfl,rfl⟩
  clear CT f1 f2 f3 gq gq2 hsl
  have hpa:((a:Int)).toNat=a:=by omega
  have hpb:((b:Int)).toNat=b:=by omega
  clear b0 b1 b2 k0 k1 r2
  have HC3:Hid (∀ W,Below W2.drew.heap.size W2.drew W→W.cell? ⟨gr,2,none⟩=some (.slice (some ⟨kb,ko,none⟩) r.holes.length ch)∧W.cell? ⟨kb,ko+n*2,none⟩=some (.string hn)∧W.cell? ⟨kb,ko+n*2+1,none⟩=some (.int .u8 (hk:Int))∧W.cell? ⟨gb,1,none⟩=some (.int .i64 (a:Int))):=Hd fun W hb=>by
   have hb2:=zB (Below.refl W2.heap.size W2).drew hb
   exact ⟨HRW.out W hb2,(HHW.out W hb2).1,(HHW.out W hb2).2,(HBW.out W hb2).2.1⟩
  have HB3:Hid (Below W1.heap.size W1 W2.drew):=Hd (zB HB12.out (Below.refl _ _).drew)
  clear HBW HHW HRW HB12 HB12w
  generalize W2.drew=W3 at *
  have HS0:Hid (∀ W,Below W3.heap.size W3 W→(fun W=>W.cell? ⟨gr,2,none⟩=some (.slice (some ⟨kb,ko,none⟩) r.holes.length ch)∧W.cell? ⟨kb,ko+n*2,none⟩=some (.string hn)∧W.cell? ⟨kb,ko+n*2+1,none⟩=some (.int .u8 (hk:Int))∧W.cell? ⟨gb,1,none⟩=some (.int .i64 (a:Int))∧Hid (Below W3.heap.size W3 W)) W):=Hd fun W hb=>⟨(HC3.out W hb).1,(HC3.out W hb).2.1,(HC3.out W hb).2.2.1,(HC3.out W hb).2.2.2,Hd hb⟩
  have CS:=Hd (fun W=>zFl hn hk W)
  have HHK:=Hd hkk
  clear hkk
  have HTZ:Hid (yT (piece l ((a:Int)).toNat ((b:Int)).toNat)=yT (piece l a b)):=Hd (by rw [hpa,hpb])
  have HTR:=Hd (fun h=>zNg (l:=piece l a b) h)
  generalize htz:yT (piece l a b)=tz at *
  clear htz
  go_upto_region 10 with (fail)
  by_cases t0:tz<0
  case pos =>
   have HX:=Hd (HNO.out W3.drew (zKr (by simp only [];rw [HTZ.out];exact t0)) (zB HB12d.out (Below.refl _ _).drew))
   refine wp_region_noPanic ?_
   refine wp_region_held_drew (S:=(fun W=>W.cell? ⟨gr,2,none⟩=some (.slice (some ⟨kb,ko,none⟩) r.holes.length ch)∧W.cell? ⟨kb,ko+n*2,none⟩=some (.string hn)∧W.cell? ⟨kb,ko+n*2+1,none⟩=some (.int .u8 (hk:Int))∧W.cell? ⟨gb,1,none⟩=some (.int .i64 (a:Int))∧Hid (Below W3.heap.size W3 W))) (by kernel_rfl) (HS0.out _ (Below.refl _ _).drew) (fun hHeldA=>?_)
   refine tkH 0 61 ?vA0 rfl ?hyA0 hHeldA ?restA0
   case hyA0=>intro w q;(try dsimp only at q);go_simp;(try with_reducible rfl)
   (try simp only [aP])
   refine tkH 1 62 ?vA1 rfl ?hyA1 hHeldA ?restA1
   case hyA1=>intro w q;(try dsimp only at q);go_simp;(try with_reducible rfl)
   (try simp only [aP])
   refine tkH 2 63 ?vA2 rfl ?hyA2 hHeldA ?restA2
   case hyA2=>intro w q;(try dsimp only at q);go_simp;(try with_reducible rfl)
   (try simp only [aP])
   refine skH 3 64 rfl hHeldA ?_
   refine skH 4 65 rfl hHeldA ?_
   refine skH 5 66 rfl hHeldA ?_
   refine skH 6 67 rfl hHeldA ?_
   refine skH 7 68 rfl hHeldA ?_
   refine wpAnyH_ready (rs:=[8]) (by kernel_rfl) (by simp) ?_
   refine AllReadyH.cons (o:=⟨some 69,_,_,_,_,_⟩) rfl (fun K hK=>?_) AllReadyH.nil
   rw [if_neg]
   rotate_left
   ·exact fun h=>Bool.noConfusion (h.symm.trans (by kernel_rfl:_=false))
   refine hK.out _ _ hHeldA (fun hHeldA_1=>?_)
   clear hK K hHeldA
   (try simp only [aP])
   refine skH 9 70 rfl hHeldA_1 ?_
   refine skH 10 71 rfl hHeldA_1 ?_
   refine skH 11 72 rfl hHeldA_1 ?_
   refine skH 12 73 rfl hHeldA_1 ?_
   refine skH 13 74 rfl hHeldA_1 ?_
   refine skH 14 75 rfl hHeldA_1 ?_
   refine skH 15 76 rfl hHeldA_1 ?_
   refine skH 16 77 rfl hHeldA_1 ?_
   refine skH 17 78 rfl hHeldA_1 ?_
   refine skH 18 79 rfl hHeldA_1 ?_
   refine skH 19 80 rfl hHeldA_1 ?_
   refine skH 20 81 rfl hHeldA_1 ?_
   refine skH 21 82 rfl hHeldA_1 ?_
   refine skH 22 83 rfl hHeldA_1 ?_
   refine skH 23 84 rfl hHeldA_1 ?_
   refine skH 24 85 rfl hHeldA_1 ?_
   refine skH 25 86 rfl hHeldA_1 ?_
   refine wpAnyH_ready (rs:=[26]) (by kernel_rfl) (by simp) ?_
   refine AllReadyH.cons (o:=⟨some 87,_,_,_,_,_⟩) rfl (fun K hK=>?_) AllReadyH.nil
   rw [if_neg]
   rotate_left
   ·exact fun h=>Bool.noConfusion (h.symm.trans (by kernel_rfl:_=false))
   refine hK.out _ _ hHeldA_1 (fun hHeldA_2=>?_)
   clear hK K hHeldA_1
   (try simp only [aP])
   refine skH 27 88 rfl hHeldA_2 ?_
   refine skH 28 89 rfl hHeldA_2 ?_
   refine skH 29 90 rfl hHeldA_2 ?_
   refine tkH 30 91 ?vA30 rfl ?hyA30 hHeldA_2 ?restA30
   case hyA30=>intro w q;(try dsimp only at q);go_simp;(try with_reducible rfl)
   (try simp only [aP])
   refine wpAnyH_done (by kernel_rfl) ?_ _
   refine NoPanic.normal ?_
   go_wp2_with fail
   exact HX.out
  have ht0:0≤tz:=by omega
  cases hsv:isSev hk with
  | true =>
   rw [hsv] at CS
   have HYX:Hid (∀ w',Below W1.heap.size W1 w'→rrRel r l bs W1 (.int .i64 ((n:Int)+1)) w'):=Hd fun w' hb=>HYE.out w' (zGa HNE.out ⟨by simp only [];omega,by simp only [];omega,by simp only [];omega⟩ (by simp only [];rw [HTZ.out];exact ht0) (fun h=>by simp only [] at h;rw [hsv] at h;cases h)) hb
   clear hsv
   refine wp_region_noPanic ?_
   refine wp_region_held_drew (S:=(fun W=>W.cell? ⟨gr,2,none⟩=some (.slice (some ⟨kb,ko,none⟩) r.holes.length ch)∧W.cell? ⟨kb,ko+n*2,none⟩=some (.string hn)∧W.cell? ⟨kb,ko+n*2+1,none⟩=some (.int .u8 (hk:Int))∧W.cell? ⟨gb,1,none⟩=some (.int .i64 (a:Int))∧Hid (Below W3.heap.size W3 W))) (by kernel_rfl) (HS0.out _ (Below.refl _ _).drew) (fun hHeldB=>?_)
   refine tkH 0 61 ?vB0 rfl ?hyB0 hHeldB ?restB0
   case hyB0=>intro w q;(try dsimp only at q);go_simp;(try with_reducible rfl)
   (try simp only [aP])
   refine tkH 1 62 ?vB1 rfl ?hyB1 hHeldB ?restB1
   case hyB1=>intro w q;(try dsimp only at q);go_simp;(try with_reducible rfl)
   (try simp only [aP])
   refine tkH 2 63 ?vB2 rfl ?hyB2 hHeldB ?restB2
   case hyB2=>intro w q;(try dsimp only at q);go_simp;(try with_reducible rfl)
   (try simp only [aP])
   refine tkH 3 64 ?vB3 rfl ?hyB3 hHeldB ?restB3
   case hyB3=>intro w q;(try dsimp only at q);go_simp;(try with_reducible rfl)
   (try simp only [aP])
   refine tkH 4 65 ?vB4 rfl ?hyB4 hHeldB ?restB4
   case hyB4=>intro w q;(try dsimp only at q);go_simp;(try with_reducible rfl)
   (try simp only [aP])
   refine tkH 5 66 ?vB5 rfl ?hyB5 hHeldB ?restB5
   case hyB5=>intro w q;(try dsimp only at q);go_simp;(try with_reducible rfl)
   (try simp only [aP])
   refine tkH 6 67 ?vB6 rfl ?hyB6 hHeldB ?restB6
   case hyB6=>intro w q;(try dsimp only at q);go_simp;(try with_reducible rfl)
   (try simp only [aP])
   refine tkH 7 68 ?vB7 rfl ?hyB7 hHeldB ?restB7
   case hyB7=>intro w q;(try dsimp only at q);go_simp;(try with_reducible rfl)
   (try simp only [aP])
   refine wpAnyH_ready (rs:=[8]) (by kernel_rfl) (by simp) ?_
   refine AllReadyH.cons (o:=_) rfl (fun K hK=>?_) AllReadyH.nil
   go_simp
   go_at_call 46
   refine (CS.out _).mono ?_
   rintro e w5 ⟨rfl,hb5⟩
   have HB5:=Hd ((Below.refl W3.heap.size W3).drew.trans hb5)
   clear hb5
   (try dsimp only)
   refine hK.out _ _ (HS0.out _ HB5.out) (fun hHeldB_1=>?_)
   clear hK K hHeldB
   (try simp only [aP])
   refine tkH 9 70 ?vB9 rfl ?hyB9 hHeldB_1 ?restB9
   case hyB9=>intro w q;(try dsimp only at q);go_simp;(try with_reducible rfl)
   (try simp only [aP])
   refine tkH 10 71 ?vB10 rfl ?hyB10 hHeldB_1 ?restB10
   case hyB10=>intro w q;(try dsimp only at q);go_simp;(try with_reducible rfl)
   (try simp only [aP])
   refine skH 11 72 rfl hHeldB_1 ?_
   refine skH 12 73 rfl hHeldB_1 ?_
   refine skH 13 74 rfl hHeldB_1 ?_
   refine skH 14 75 rfl hHeldB_1 ?_
   refine skH 15 76 rfl hHeldB_1 ?_
   refine skH 16 77 rfl hHeldB_1 ?_
   refine skH 17 78 rfl hHeldB_1 ?_
   refine skH 18 79 rfl hHeldB_1 ?_
   refine skH 19 80 rfl hHeldB_1 ?_
   refine skH 20 81 rfl hHeldB_1 ?_
   refine skH 21 82 rfl hHeldB_1 ?_
   refine skH 22 83 rfl hHeldB_1 ?_
   refine skH 23 84 rfl hHeldB_1 ?_
   refine skH 24 85 rfl hHeldB_1 ?_
   refine skH 25 86 rfl hHeldB_1 ?_
   refine wpAnyH_ready (rs:=[26]) (by kernel_rfl) (by simp) ?_
   refine AllReadyH.cons (o:=⟨some 87,_,_,_,_,_⟩) rfl (fun K hK=>?_) AllReadyH.nil
   rw [if_neg]
   rotate_left
   ·exact fun h=>Bool.noConfusion (h.symm.trans (by kernel_rfl:_=false))
   refine hK.out _ _ hHeldB_1 (fun hHeldB_2=>?_)
   clear hK K hHeldB_1
   (try simp only [aP])
   refine skH 27 88 rfl hHeldB_2 ?_
   refine skH 28 89 rfl hHeldB_2 ?_
   refine tkH 29 90 ?vB29 rfl ?hyB29 hHeldB_2 ?restB29
   case hyB29=>intro w q;(try dsimp only at q);go_simp;(try with_reducible rfl)
   (try simp only [aP])
   refine tkH 30 91 ?vB30 rfl ?hyB30 hHeldB_2 ?restB30
   case hyB30=>intro w q;(try dsimp only at q);go_simp;(try with_reducible rfl)
   (try simp only [aP])
   refine wpAnyH_done (by kernel_rfl) ?_ _
   refine NoPanic.normal ?_
   have HX:=Hd (HYX.out w5 (zB HB3.out HB5.out))
   go_wp2_with fail
   exact ⟨HX.out,by simp only [intOf];omega⟩
  | false =>
   rw [hsv] at CS
   by_cases hk1:tz=1
   case neg =>
    have HX0:=Hd (fun w' hb=>HNO.out w' (zSc hsv (by simp only [];rw [HTZ.out];exact hk1)) hb)
    have q1:(tz != 1)=true:=by rw [bne_iff_ne];exact hk1
    have q2:(tz == 1)=false:=by rw [beq_eq_false_iff_ne];exact hk1
    clear hsv hk1
    refine wp_region_noPanic ?_
    refine wp_region_held_drew (S:=(fun W=>W.cell? ⟨gr,2,none⟩=some (.slice (some ⟨kb,ko,none⟩) r.holes.length ch)∧W.cell? ⟨kb,ko+n*2,none⟩=some (.string hn)∧W.cell? ⟨kb,ko+n*2+1,none⟩=some (.int .u8 (hk:Int))∧W.cell? ⟨gb,1,none⟩=some (.int .i64 (a:Int))∧Hid (Below W3.heap.size W3 W))) (by kernel_rfl) (HS0.out _ (Below.refl _ _).drew) (fun hHeldC=>?_)
    refine tkH 0 61 ?vC0 rfl ?hyC0 hHeldC ?restC0
    case hyC0=>intro w q;(try dsimp only at q);go_simp;(try with_reducible rfl)
    (try simp only [aP])
    refine tkH 1 62 ?vC1 rfl ?hyC1 hHeldC ?restC1
    case hyC1=>intro w q;(try dsimp only at q);go_simp;(try with_reducible rfl)
    (try simp only [aP])
    refine tkH 2 63 ?vC2 rfl ?hyC2 hHeldC ?restC2
    case hyC2=>intro w q;(try dsimp only at q);go_simp;(try with_reducible rfl)
    (try simp only [aP])
    refine tkH 3 64 ?vC3 rfl ?hyC3 hHeldC ?restC3
    case hyC3=>intro w q;(try dsimp only at q);go_simp;(try with_reducible rfl)
    (try simp only [aP])
    refine tkH 4 65 ?vC4 rfl ?hyC4 hHeldC ?restC4
    case hyC4=>intro w q;(try dsimp only at q);go_simp;(try with_reducible rfl)
    (try simp only [aP])
    refine tkH 5 66 ?vC5 rfl ?hyC5 hHeldC ?restC5
    case hyC5=>intro w q;(try dsimp only at q);go_simp;(try with_reducible rfl)
    (try simp only [aP])
    refine tkH 6 67 ?vC6 rfl ?hyC6 hHeldC ?restC6
    case hyC6=>intro w q;(try dsimp only at q);go_simp;(try with_reducible rfl)
    (try simp only [aP])
    refine tkH 7 68 ?vC7 rfl ?hyC7 hHeldC ?restC7
    case hyC7=>intro w q;(try dsimp only at q);go_simp;(try with_reducible rfl)
    (try simp only [aP])
    refine wpAnyH_ready (rs:=[8]) (by kernel_rfl) (by simp) ?_
    refine AllReadyH.cons (o:=_) rfl (fun K hK=>?_) AllReadyH.nil
    go_simp
    go_at_call 46
    refine (CS.out _).mono ?_
    rintro e w5 ⟨rfl,hb5⟩
    have HB5:=Hd ((Below.refl W3.heap.size W3).drew.trans hb5)
    clear hb5
    (try dsimp only)
    refine hK.out _ _ (HS0.out _ HB5.out) (fun hHeldC_1=>?_)
    clear hK K hHeldC
    (try simp only [aP])
    refine tkH 9 70 ?vC9 rfl ?hyC9 hHeldC_1 ?restC9
    case hyC9=>intro w q;(try dsimp only at q);go_simp;(try with_reducible rfl)
    (try simp only [aP])
    refine tkH 10 71 ?vC10 rfl ?hyC10 hHeldC_1 ?restC10
    case hyC10=>intro w q;(try dsimp only at q);go_simp;(try with_reducible rfl)
    (try simp only [aP])
    refine tkH 11 72 ?vC11 rfl ?hyC11 hHeldC_1 ?restC11
    case hyC11=>intro w q;(try dsimp only at q);go_simp;(try with_reducible rfl)
    (try simp only [aP])
    refine tkH 12 73 ?vC12 rfl ?hyC12 hHeldC_1 ?restC12
    case hyC12=>intro w q;(try dsimp only at q);go_simp;(try with_reducible rfl)
    (try simp only [aP])
    refine tkH 13 74 ?vC13 rfl ?hyC13 hHeldC_1 ?restC13
    case hyC13=>intro w q;(try dsimp only at q);go_simp;(try with_reducible rfl)
    (try simp only [aP])
    refine skH 14 75 rfl hHeldC_1 ?_
    refine skH 15 76 rfl hHeldC_1 ?_
    refine skH 16 77 rfl hHeldC_1 ?_
    refine skH 17 78 rfl hHeldC_1 ?_
    refine skH 18 79 rfl hHeldC_1 ?_
    refine skH 19 80 rfl hHeldC_1 ?_
    refine skH 20 81 rfl hHeldC_1 ?_
    refine skH 21 82 rfl hHeldC_1 ?_
    refine skH 22 83 rfl hHeldC_1 ?_
    refine skH 23 84 rfl hHeldC_1 ?_
    refine skH 24 85 rfl hHeldC_1 ?_
    refine skH 25 86 rfl hHeldC_1 ?_
    refine wpAnyH_ready (rs:=[26]) (by kernel_rfl) (by simp) ?_
    refine AllReadyH.cons (o:=⟨some 87,_,_,_,_,_⟩) rfl (fun K hK=>?_) AllReadyH.nil
    rw [if_neg]
    rotate_left
    ·exact fun h=>Bool.noConfusion (h.symm.trans (by kernel_rfl:_=false))
    refine hK.out _ _ hHeldC_1 (fun hHeldC_2=>?_)
    clear hK K hHeldC_1
    (try simp only [aP])
    refine skH 27 88 rfl hHeldC_2 ?_
    refine tkH 28 89 ?vC28 rfl ?hyC28 hHeldC_2 ?restC28
    case hyC28=>intro w q;(try dsimp only at q);go_simp;(try with_reducible rfl)
    (try simp only [aP])
    refine tkH 29 90 ?vC29 rfl ?hyC29 hHeldC_2 ?restC29
    case hyC29=>intro w q;(try dsimp only at q);go_simp;(try with_reducible rfl)
    (try simp only [aP])
    refine tkH 30 91 ?vC30 rfl ?hyC30 hHeldC_2 ?restC30
    case hyC30=>intro w q;(try dsimp only at q);go_simp;(try with_reducible rfl)
    (try simp only [aP])
    refine wpAnyH_done (by kernel_rfl) ?_ _
    refine NoPanic.normal ?_
    have HX:=Hd (HX0.out w5 (zB HB12d.out HB5.out))
    go_wp2_with fail
    exact HX.out
   subst hk1
   have hlt2:a<b:=by
    apply Classical.byContradiction
    intro hc
    obtain rfl:a=b:=by omega
    obtain ⟨ts,e1,e2⟩:=HTR.out (by omega)
    unfold piece at e1
    rw [Nat.sub_self,List.take_zero] at e1
    cases e1
    simp at e2
   have hall:a<l.length:=by omega
   obtain ⟨lb,lo,rfl,y1,y2,y3,hlc⟩:=HLR.out.at (Below.refl _ _) (show 0<l.length by omega)
   clear y1 y2 y3 hlc
   have HS1:Hid (∀ W,Below W3.heap.size W3 W→(fun W=>W.cell? ⟨gr,2,none⟩=some (.slice (some ⟨kb,ko,none⟩) r.holes.length ch)∧W.cell? ⟨kb,ko+n*2,none⟩=some (.string hn)∧W.cell? ⟨kb,ko+n*2+1,none⟩=some (.int .u8 (hk:Int))∧W.cell? ⟨gb,1,none⟩=some (.int .i64 (a:Int))∧W.cell? ⟨lb,lo+a*3,none⟩=some (.int .u8 (yJ l a:Int))∧Hid (Below W3.heap.size W3 W)) W):=Hd fun W hb=>⟨(HC3.out W hb).1,(HC3.out W hb).2.1,(HC3.out W hb).2.2.1,(HC3.out W hb).2.2.2,by
    obtain ⟨b2,o2,e',_,_,_,hcc⟩:=HLR.out.at (zB HB12d.out hb) (show 0<l.length by omega)
    simp only [Option.some.injEq,Addr.mk.injEq,and_true] at e'
    obtain ⟨rfl,rfl⟩:=e'
    rw [(hcc a hall).1]
    unfold yJ
    rw [List.getElem?_eq_getElem hall],Hd hb⟩
   have hkl2:yJ l a<256:=by
    unfold yJ
    rw [List.getElem?_eq_getElem hall]
    exact (HL.out.2 _ (List.getElem_mem hall)).1
   have h15:1≤hk∧hk≤5:=by
    have:=HHK.out
    unfold isSev at hsv
    simp at hsv
    omega
   have CM:=Hd (fun W=>zUl hk (yJ l a) h15.1 h15.2 hkl2 W)
   have HMY:Hid (mayB hk (yJ l a)=true→∀ w',Below W1.heap.size W1 w'→rrRel r l bs W1 (.int .i64 ((n:Int)+1)) w'):=Hd fun hm w' hb=>HYE.out w' (zGa HNE.out ⟨by simp only [];omega,by simp only [];omega,by simp only [];omega⟩ (by simp only [];rw [HTZ.out];omega) (fun _=>⟨by simp only [];exact HTZ.out,by simp only [hpa];exact hm⟩)) hb
   have HMN:Hid (mayB hk (yJ l a)=false→∀ w',Below w.heap.size w w'→Q (.returned (.bool false)) w'):=Hd fun hm w' hb=>HNO.out w' (zSd hsv (by simp only [hpa];exact hm)) hb
   have ha0:(0:Int)≤(a:Int):=by omega
   have hal:(a:Int)<l.length:=by omega
   have halc:(a:Int)<cl:=by omega
   clear hsv hkl2 h15
   generalize yJ l a=y at *
   obtain ⟨z,hm⟩:∃ z,mayB hk y=z:=⟨_,rfl⟩
   rw [hm] at CM HMY HMN
   clear hm
   refine wp_region_noPanic ?_
   refine wp_region_held_drew (S:=(fun W=>W.cell? ⟨gr,2,none⟩=some (.slice (some ⟨kb,ko,none⟩) r.holes.length ch)∧W.cell? ⟨kb,ko+n*2,none⟩=some (.string hn)∧W.cell? ⟨kb,ko+n*2+1,none⟩=some (.int .u8 (hk:Int))∧W.cell? ⟨gb,1,none⟩=some (.int .i64 (a:Int))∧W.cell? ⟨lb,lo+a*3,none⟩=some (.int .u8 (y:Int))∧Hid (Below W3.heap.size W3 W))) (by kernel_rfl) (HS1.out _ (Below.refl _ _).drew) (fun hHeldD=>?_)
   refine tkH 0 61 ?vD0 rfl ?hyD0 hHeldD ?restD0
   case hyD0=>intro w q;(try dsimp only at q);go_simp;(try with_reducible rfl)
   (try simp only [aP])
   refine tkH 1 62 ?vD1 rfl ?hyD1 hHeldD ?restD1
   case hyD1=>intro w q;(try dsimp only at q);go_simp;(try with_reducible rfl)
   (try simp only [aP])
   refine tkH 2 63 ?vD2 rfl ?hyD2 hHeldD ?restD2
   case hyD2=>intro w q;(try dsimp only at q);go_simp;(try with_reducible rfl)
   (try simp only [aP])
   refine tkH 3 64 ?vD3 rfl ?hyD3 hHeldD ?restD3
   case hyD3=>intro w q;(try dsimp only at q);go_simp;(try with_reducible rfl)
   (try simp only [aP])
   refine tkH 4 65 ?vD4 rfl ?hyD4 hHeldD ?restD4
   case hyD4=>intro w q;(try dsimp only at q);go_simp;(try with_reducible rfl)
   (try simp only [aP])
   refine tkH 5 66 ?vD5 rfl ?hyD5 hHeldD ?restD5
   case hyD5=>intro w q;(try dsimp only at q);go_simp;(try with_reducible rfl)
   (try simp only [aP])
   refine tkH 6 67 ?vD6 rfl ?hyD6 hHeldD ?restD6
   case hyD6=>intro w q;(try dsimp only at q);go_simp;(try with_reducible rfl)
   (try simp only [aP])
   refine tkH 7 68 ?vD7 rfl ?hyD7 hHeldD ?restD7
   case hyD7=>intro w q;(try dsimp only at q);go_simp;(try with_reducible rfl)
   (try simp only [aP])
   refine wpAnyH_ready (rs:=[8]) (by kernel_rfl) (by simp) ?_
   refine AllReadyH.cons (o:=_) rfl (fun K hK=>?_) AllReadyH.nil
   go_simp
   go_at_call 46
   refine (CS.out _).mono ?_
   rintro e w5 ⟨rfl,hb5⟩
   have HB5:=Hd ((Below.refl W3.heap.size W3).drew.trans hb5)
   clear hb5
   (try dsimp only)
   refine hK.out _ _ (HS1.out _ HB5.out) (fun hHeldD_1=>?_)
   clear hK K hHeldD
   (try simp only [aP])
   refine tkH 9 70 ?vD9 rfl ?hyD9 hHeldD_1 ?restD9
   case hyD9=>intro w q;(try dsimp only at q);go_simp;(try with_reducible rfl)
   (try simp only [aP])
   refine tkH 10 71 ?vD10 rfl ?hyD10 hHeldD_1 ?restD10
   case hyD10=>intro w q;(try dsimp only at q);go_simp;(try with_reducible rfl)
   (try simp only [aP])
   refine tkH 11 72 ?vD11 rfl ?hyD11 hHeldD_1 ?restD11
   case hyD11=>intro w q;(try dsimp only at q);go_simp;(try with_reducible rfl)
   (try simp only [aP])
   refine tkH 12 73 ?vD12 rfl ?hyD12 hHeldD_1 ?restD12
   case hyD12=>intro w q;(try dsimp only at q);go_simp;(try with_reducible rfl)
   (try simp only [aP])
   refine tkH 13 74 ?vD13 rfl ?hyD13 hHeldD_1 ?restD13
   case hyD13=>intro w q;(try dsimp only at q);go_simp;(try with_reducible rfl)
   (try simp only [aP])
   refine tkH 14 75 ?vD14 rfl ?hyD14 hHeldD_1 ?restD14
   case hyD14=>intro w q;(try dsimp only at q);go_simp;(try with_reducible rfl)
   (try simp only [aP])
   refine tkH 15 76 ?vD15 rfl ?hyD15 hHeldD_1 ?restD15
   case hyD15=>intro w q;(try dsimp only at q);go_simp;(try with_reducible rfl)
   (try simp only [aP])
   refine tkH 16 77 ?vD16 rfl ?hyD16 hHeldD_1 ?restD16
   case hyD16=>intro w q;(try dsimp only at q);go_simp;(try with_reducible rfl)
   (try simp only [aP])
   refine tkH 17 78 ?vD17 rfl ?hyD17 hHeldD_1 ?restD17
   case hyD17=>intro w q;(try dsimp only at q);go_simp;(try with_reducible rfl)
   (try simp only [aP])
   refine tkH 18 79 ?vD18 rfl ?hyD18 hHeldD_1 ?restD18
   case hyD18=>intro w q;(try dsimp only at q);go_simp;(try with_reducible rfl)
   (try simp only [aP])
   refine tkH 19 80 ?vD19 rfl ?hyD19 hHeldD_1 ?restD19
   case hyD19=>intro w q;(try dsimp only at q);go_simp;(try with_reducible rfl)
   (try simp only [aP])
   refine tkH 20 81 ?vD20 rfl ?hyD20 hHeldD_1 ?restD20
   case hyD20=>intro w q;(try dsimp only at q);go_simp;(try with_reducible rfl)
   (try simp only [aP])
   refine tkH 21 82 ?vD21 rfl ?hyD21 hHeldD_1 ?restD21
   case hyD21=>intro w q;(try dsimp only at q);go_simp;(try with_reducible rfl)
   (try simp only [aP])
   refine tkH 22 83 ?vD22 rfl ?hyD22 hHeldD_1 ?restD22
   case hyD22=>intro w q;(try dsimp only at q);go_simp;(try with_reducible rfl)
   (try simp only [aP])
   refine tkH 23 84 ?vD23 rfl ?hyD23 hHeldD_1 ?restD23
   case hyD23=>intro w q;(try dsimp only at q);go_simp;(try with_reducible rfl)
   (try simp only [aP])
   refine tkH 24 85 ?vD24 rfl ?hyD24 hHeldD_1 ?restD24
   case hyD24=>intro w q;(try dsimp only at q);go_simp;(try with_reducible rfl)
   (try simp only [aP])
   refine tkH 25 86 ?vD25 rfl ?hyD25 hHeldD_1 ?restD25
   case hyD25=>intro w q;(try dsimp only at q);go_simp;(try with_reducible rfl)
   (try simp only [aP])
   refine wpAnyH_ready (rs:=[26]) (by kernel_rfl) (by simp) ?_
   refine AllReadyH.cons (o:=_) rfl (fun K hK=>?_) AllReadyH.nil
   go_simp
   go_at_call 47
   refine (CM.out _).mono ?_
   rintro e w6 ⟨rfl,rfl⟩
   (try dsimp only)
   refine hK.out _ _ (HS1.out _ HB5.out) (fun hHeldD_2=>?_)
   clear hK K hHeldD_1
   (try simp only [aP])
   refine tkH 27 88 ?vD27 rfl ?hyD27 hHeldD_2 ?restD27
   case hyD27=>intro w q;(try dsimp only at q);go_simp;(try with_reducible rfl)
   (try simp only [aP])
   refine tkH 28 89 ?vD28 rfl ?hyD28 hHeldD_2 ?restD28
   case hyD28=>intro w q;(try dsimp only at q);go_simp;(try with_reducible rfl)
   (try simp only [aP])
   refine tkH 29 90 ?vD29 rfl ?hyD29 hHeldD_2 ?restD29
   case hyD29=>intro w q;(try dsimp only at q);go_simp;(try with_reducible rfl)
   (try simp only [aP])
   refine tkH 30 91 ?vD30 rfl ?hyD30 hHeldD_2 ?restD30
   case hyD30=>intro w q;(try dsimp only at q);go_simp;(try with_reducible rfl)
   (try simp only [aP])
   refine wpAnyH_done (by kernel_rfl) ?_ _
   refine NoPanic.normal ?_
   cases z with
   | true =>
    have HX:=Hd (HMY.out rfl w5 (zB HB3.out HB5.out))
    go_wp2_with fail
    exact ⟨HX.out,by simp only [intOf];omega⟩
   | false =>
    have HX:=Hd (HMN.out rfl w5 (zB HB12d.out HB5.out))
    go_wp2_with fail
    exact HX.out
end Go.Proofs.YtfalelkfhandfaaGreatDoor
