/- Layer 20: the maker's hole, walked (printed by tools/genmakh.py). -/
import Derived.Test.YtfalelkfhandfaaGreatDoorPackMs
import Derived.Test.YtfalelkfhandfaaGreatDoorKpMMs
import Derived.Test.YtfalelkfhandfaaGreatDoorRightWMs
import Derived.Test.YtfalelkfhandfaaGreatDoorRefHoleMs
import Derived.Test.YtfalelkfhandfaaGreatDoorCheckCMs
import Derived.Test.YtfalelkfhandfaaGreatDoorCheckBMs
import Derived.Test.YtfalelkfhandfaaGreatDoorAppEqMs
import Derived.Test.YtfalelkfhandfaaGreatDoorTermMs
import Derived.Test.YtfalelkfhandfaaGreatDoorTreesFMs
import Derived.Test.YtfalelkfhandfaaGreatDoorStepPMs
import Derived.Test.YtfalelkfhandfaaGreatDoorMapSMs
namespace Go.Proofs.YtfalelkfhandfaaGreatDoor
set_option maxRecDepth 100000
set_option maxHeartbeats 32000000
set_option linter.all false
attribute [local irreducible] Calls
attribute [local irreducible] wpStill
open Go.RowKit

theorem zDb {P:Program} {fn:Func} {p t1:Tmp} {ty:TypeId} (h:fn.results=#[.cell p ty,.tmp t1]) (tmps:Array Value) (w:World) (g:Nat) (t:TypeId) (cs:Array Value) (fr:Nat×Nat) (d:TypeDesc)
  (hp:tmps.getD p undef=.pointer (some ⟨g,0,none⟩)) (hg:w.heap[g]?=some (.cells cs t fr))
  (hu:P.underlying ty=some d) (hd:(match d with | .struct _ | .array _ _=>true | _=>false)=true) (hi:(P.info? ty).map (·.size)=some cs.size) :
  (results fn tmps).run P w=.ok (.tuple #[.agg cs,tmps.getD t1 undef]) w:=by
 have hp':tmps[p]?.getD undef=.pointer (some ⟨g,0,none⟩):=by simpa using hp
 simp [results,h,hp',asAddr,run_loadVar_row w g t ty cs fr d hg hu hd hi]
structure MkF (w0:World) (E:MkE):Prop where
 H:HoleRow w0 E.vh E.r.holes
 Y:zD w0 E.vy E.r.by'
 L:zD w0 E.vl E.l
 N:zI w0 E.ve .i64 (endsL E.l)
 K:BindRow w0 E.vb E.bs
 sr:SmallR E.r
 sl:SmallL E.l
 rz:ruleZ E.r=0
 wl:zZ E.l=true
 rt:rightB E.r E.l E.bs=true
theorem MkF.bl {w0:World} {E:MkE} (F:MkF w0 E):E.bs.length=E.r.holes.length:=(vU.1 F.rt).1
def bindA (b:Bnd):Value:=.agg #[.string b.1,.int .i64 b.2.1,.int .i64 b.2.2]
@[irreducible] def mkHolePost (E:MkE) (p:Nat) (W:World) (e:Ending) (w':World):Prop :=
 Below W.heap.size W w'∧match zW E.r.by' E.r.holes p with
 | some h=>∃ hh:h<E.bs.length,e=.returned (.tuple #[bindA E.bs[h],.bool true])
 | none=>e=.returned (.tuple #[bindA (⟨#[]⟩,0,0),.bool false])
def mhOK (E:MkE) (p:Nat) (x:Bool) (b:Bnd):Prop:=(x=true→∃ h,zW E.r.by' E.r.holes p=some h∧∃ hh:h<E.bs.length,b=E.bs[h])∧(x=false→zW E.r.by' E.r.holes p=none∧b=(⟨#[]⟩,0,0))
def mhRel (E:MkE) (p:Nat) (W1:World) (xv nv:Value) (wr:World):Prop:=∃ k:Nat,nv=.int .i64 (k:Int)∧xv=.bool false∧k≤E.r.holes.length∧(∀ j (hj:j<E.r.holes.length),j<k→yD E.r.by' p E.r.holes[j]=false)∧Below W1.heap.size W1 wr
theorem BdK.fz {W:World} {g:Nat} {b:Bnd} (h:BdK W g b):W.frozen? ⟨g,0,none⟩=false∧W.frozen? ⟨g,1,none⟩=false∧W.frozen? ⟨g,2,none⟩=false∧∀ j,W.frozen? ⟨g,j,none⟩=false:=by
 unfold BdK at h
 simp [World.frozen?,h]
theorem BdK.set3 {W:World} {g:Nat} {b:Bnd} (h:BdK W g b) (q:Bnd):BdK (((W.setCell ⟨g,0,none⟩ (.string q.1)).setCell ⟨g,1,none⟩ (.int .i64 q.2.1)).setCell ⟨g,2,none⟩ (.int .i64 q.2.2)) g q:=by
 unfold BdK at *
 have h1:=heap_setCell_same W g 0 _ _ (.string q.1) h
 have h2:=heap_setCell_same _ g 1 _ _ (.int .i64 q.2.1) h1
 have h3:=heap_setCell_same _ g 2 _ _ (.int .i64 q.2.2) h2
 exact h3
theorem zRq (w0:World) (E:MkE) (F:MkF w0 E) (out:List PN) (lg:Bool) (ov fv:Value) (W:World) (hi:MkIn w0 E out lg ov fv W) (p:Nat) (hp:p<E.r.by'.length) :
  Calls Tryz.prog 40 #[.pointer (some ⟨E.g,0,none⟩),.int .i64 (p:Int)] W (mkHolePost E p W):=by
 have HQ:Hid (∀ w' (b:Bnd) (x:Bool),(x=true→∃ h,zW E.r.by' E.r.holes p=some h∧∃ hh:h<E.bs.length,b=E.bs[h])→(x=false→zW E.r.by' E.r.holes p=none∧b=(⟨#[]⟩,0,0))→Below W.heap.size W w'→mkHolePost E p W (.returned (.tuple #[bindA b,.bool x])) w'):=Hd fun w' b x h1 h2 hb=>by
  unfold mkHolePost
  refine ⟨hb,?_⟩
  cases x with
  | true =>
   obtain ⟨h,e,hh,rfl⟩:=h1 rfl
   rw [e];exact ⟨hh,rfl⟩
  | false =>
   obtain ⟨e,rfl⟩:=h2 rfl
   rw [e]
 generalize mkHolePost E p W=Q at *
 have HF:Hid (∀ (tm:Array Value) W' (b:Bnd) (x:Bool),mhOK E p x b→Below W.heap.size W W'→BdK W' W.heap.size b→tm.getD 4 undef=.pointer (some ⟨W.heap.size,0,none⟩)→tm.getD 5 undef=.bool x→bodyPost Tryz.prog Tryz.f40 Q .ret ⟨tm,[]⟩ W') :=
  Hd fun tm W' b x h1 h2 h3 h4 h5=>by
   refine bodyPost_ret (zDb rfl tm W' W.heap.size 52 #[.string b.1,.int .i64 b.2.1,.int .i64 b.2.2] (0,0) _ h4 h3 Tryz.underlying52 rfl (by kernel_rfl)) rfl ?_
   rw [h5]
   exact HQ.out W' b x h1.1 h1.2 h2
 have hyl:=F.sr.b.1
 have hhl:=F.sr.h.1
 have hbl:=F.bl
 obtain ⟨ah,ch,hvh,hch⟩:=Row.shape F.H
 obtain ⟨ay,cy,hvy,hcy⟩:=F.Y.slice
 obtain ⟨ab,cb,hvb,hcb⟩:=Row.shape F.K
 have HWW:=Hd hi.b
 have HKH:Hid (HoleRow w0 (.slice ah E.r.holes.length ch) E.r.holes):=Hd (hvh ▸ F.H)
 have HKB:Hid (BindRow w0 (.slice ab E.bs.length cb) E.bs):=Hd (hvb ▸ F.K)
 have HKY:Hid (zD w0 (.slice ay E.r.by'.length cy) E.r.by'):=Hd (hvy ▸ F.Y)
 obtain ⟨yb,yo,rfl,y1,y2,y3,y4⟩:=HKY.out.at (Below.refl _ _) (show 0<E.r.by'.length by omega)
 clear y1 y2 y3 y4
 have HCE:Hid (∀ W',Below W.heap.size W W'→W'.cell? ⟨E.g,2,none⟩=some (.slice ah E.r.holes.length ch)∧W'.cell? ⟨E.g,4,none⟩=some (.slice (some ⟨yb,yo,none⟩) E.r.by'.length cy)∧W'.cell? ⟨E.g,7,none⟩=some (.slice ab E.bs.length cb)∧∀ i (hl:i<E.r.by'.length),W'.cell? ⟨yb,yo+i*3,none⟩=some (.int .u8 ((E.r.by'[i]).1:Int))∧W'.cell? ⟨yb,yo+i*3+1,none⟩=some (.int .i64 (E.r.by'[i]).2.1)∧W'.cell? ⟨yb,yo+i*3+2,none⟩=some (.string (E.r.by'[i]).2.2)):=Hd fun W' hb=>by
  obtain ⟨c0,c1,c2,c3,c4,c5,c6,c7,_⟩:=(hi.below hb).s.cells
  refine ⟨by rw [c2,hvh],by rw [c4,hvy],by rw [c7,hvb],?_⟩
  obtain ⟨b2,o2,e',_,_,_,hcc⟩:=HKY.out.at (zB HWW.out hb) (show 0<E.r.by'.length by omega)
  simp only [Option.some.injEq,Addr.mk.injEq,and_true] at e'
  obtain ⟨rfl,rfl⟩:=e'
  exact hcc
 clear hvh hvy hvb hi F
 have HZB:Hid (BdK (W.alloc (.cells #[.string ⟨#[]⟩,.int .i64 0,.int .i64 0] 52)) W.heap.size (⟨#[]⟩,0,0)):=Hd (heap_alloc_new _ _)
 have HW1:Hid (Below W.heap.size W (W.alloc (.cells #[.string ⟨#[]⟩,.int .i64 0,.int .i64 0] 52))):=Hd ((Below.refl _ _).alloc (Nat.le_refl _) _)
 go_enter Tryz.func40,Tryz.ntmps40
 go_upto_region 1 with (fail)
 generalize W.alloc (.cells #[.string ⟨#[]⟩,.int .i64 0,.int .i64 0] 52)=W1 at *
 obtain ⟨c2,c4,c7,hyc⟩:=HCE.out W1 HW1.out
 clear hyc
 go_wp2_with fail
 clear c2 c4 c7
 go_loopw [5,16] (fun xv nv wr=>mhRel E p W1 xv nv wr) (fun _ nv _=>E.r.holes.length-(intOf nv).toNat)
 case atStart=>exact ⟨0,rfl,rfl,Nat.zero_le _,fun j hj h=>absurd h (Nat.not_lt_zero _),Below.refl _ _⟩
 case round =>
  obtain ⟨k,rfl,rfl,hk,hno,hb⟩:=hrel
  have HB:=Hd hb
  have HNO:=Hd hno
  clear hb hno
  by_cases hlt:k<E.r.holes.length
  case neg =>
   obtain rfl:k=E.r.holes.length:=by omega
   have HN:Hid (zW E.r.by' E.r.holes p=none):=Hd (by
    unfold zW
    rw [List.findIdx?_eq_none_iff]
    intro x hx
    obtain ⟨j,hj,rfl⟩:=List.mem_iff_getElem.1 hx
    exact HNO.out j hj hj)
   have HR5:Hid (BdK wr W.heap.size (⟨#[]⟩,0,0)):=Hd (HZB.out.keep HB.out)
   obtain ⟨r0,r1,r2,rz⟩:=HR5.out.fz
   obtain ⟨s0,s1,s2⟩:=HR5.out.cells
   simp only [] at s0 s1 s2
   have HF5:=Hd (HR5.out.set3 (⟨#[]⟩,0,0))
   have HBF:=Hd (((((zB HW1.out HB.out).setCell (p:=⟨W.heap.size,0,none⟩) (Nat.le_refl _) (.string ⟨#[]⟩)).setCell (p:=⟨W.heap.size,1,none⟩) (Nat.le_refl _) (.int .i64 0))).setCell (p:=⟨W.heap.size,2,none⟩) (Nat.le_refl _) (.int .i64 0))
   go_wp2_with fail
   refine HF.out _ _ (⟨#[]⟩,0,0) false ⟨fun h=>(by cases h),fun _=>⟨HN.out,rfl⟩⟩ HBF.out HF5.out ?_ ?_
   ·rfl
   ·rfl
  have hkb:k<E.bs.length:=by omega
  have HX:Hid (yD E.r.by' p E.r.holes[k]=false→∀ W',Below W1.heap.size W1 W'→mhRel E p W1 (.bool false) (.int .i64 ((k:Int)+1)) W'):=Hd fun h W' hb=>⟨k+1,by push_cast;rfl,rfl,hlt,fun j hj hjk=>by
   by_cases e:j=k
   ·subst e;exact h
   ·exact HNO.out j hj (by omega),hb⟩
  have HY:Hid (yD E.r.by' p E.r.holes[k]=true→mhOK E p true E.bs[k]):=Hd fun h=>⟨fun _=>⟨k,by
   unfold zW
   rw [List.findIdx?_eq_some_iff_getElem.2 ⟨hlt,h,fun j hj=>by rw [HNO.out j (by omega) hj];decide⟩],hkb,rfl⟩,fun h=>by cases h⟩
  obtain ⟨hb1,ho1,rfl,y1,y2,y3,hkc⟩:=HKH.out.at (zB HWW.out (zB HW1.out HB.out)) (show 0<E.r.holes.length by omega)
  clear y1 y2 y3
  obtain ⟨d0,d1⟩:=hkc k hlt
  clear hkc
  generalize hxx:E.r.holes[k]=x at *
  clear hxx
  obtain ⟨xs,xk⟩:=x
  simp only [] at d0 d1
  have hk0:(0:Int)≤(k:Int):=by omega
  have hkl:(k:Int)<E.r.holes.length:=by omega
  have hkc:(k:Int)<ch:=by omega
  have hkb0:(k:Int)<E.bs.length:=by omega
  have hkbc:(k:Int)<cb:=by omega
  have hp0:(0:Int)≤(p:Int):=by omega
  have hpl:(p:Int)<E.r.by'.length:=by omega
  have hpc:(p:Int)<cy:=by omega
  have hwp:IntKind.i64.wrap ((p:Int)+1)=(p:Int)+1:=wI (by omega)
  have HH2:Hid (HoK (wr.alloc (.cells #[.string xs,.int .u8 (xk:Int)] 49)) wr.heap.size (xs,xk)):=Hd (heap_alloc_new _ _)
  have HB2:=Hd (HB.out.alloc HB.out.size (.cells #[.string xs,.int .u8 (xk:Int)] 49))
  go_upto_region 5 with (fail)
  clear d0 d1
  generalize wr.alloc (.cells #[.string xs,.int .u8 (xk:Int)] 49)=w2 at *
  obtain ⟨k0,k1⟩:=HH2.out.cells
  simp only [] at k0 k1
  have CS:=Hd (fun W=>zPw xs xk W)
  go_wp2_with fail
  refine (CS.out _).mono ?_
  rintro e w3 ⟨rfl,hb3⟩
  have HH3:=Hd (HH2.out.keep hb3)
  have HB3:=Hd (zB HB2.out hb3)
  clear hb3 HB2 HH2 k0 k1
  obtain ⟨k0,k1⟩:=HH3.out.cells
  simp only [] at k0 k1
  cases hst:vE xk with
  | true =>
   rw [hst] at CS
   go_wp2_with fail
   refine (CS.out _).mono ?_
   rintro e w4 ⟨rfl,hb4⟩
   have HH4:=Hd (HH3.out.keep hb4)
   have HB4:=Hd (zB HB3.out hb4)
   clear hb4 HB3 HH3 k0 k1 CS
   obtain ⟨k0,k1⟩:=HH4.out.cells
   obtain ⟨c2,c4,c7,hyc⟩:=HCE.out w4 (zB HW1.out HB4.out)
   obtain ⟨n0,n1,n2⟩:=hyc p hp
   by_cases h50:(E.r.by'[p]).1=50
   case neg =>
    have hsa:yD E.r.by' p (xs,xk)=false:=by
     unfold yD
     rw [if_pos hst,List.getElem?_eq_getElem hp]
     cases E.r.by'[p+1]? with
     | none=>rfl
     | some y=>simp [h50]
    have HZ:=Hd (HX.out hsa w4 HB4.out)
    have g50:(((E.r.by'[p]).1:Int) != 50)=true:=by rw [bne_iff_ne];omega
    have g51:(((E.r.by'[p]).1:Int) == 50)=false:=by rw [beq_eq_false_iff_ne];omega
    clear hsa HX HY hyc h50
    go_wp2_with fail
    exact ⟨HZ.out,by simp only [intOf];omega⟩
   have g50:(((E.r.by'[p]).1:Int) != 50)=false:=by rw [bne_eq_false_iff_eq];omega
   have g51:(((E.r.by'[p]).1:Int) == 50)=true:=by rw [beq_iff_eq];omega
   by_cases hnx:p+1<E.r.by'.length
   case neg =>
    have hsa:yD E.r.by' p (xs,xk)=false:=by
     unfold yD
     rw [if_pos hst,List.getElem?_eq_getElem hp,List.getElem?_eq_none (by omega)]
    have HZ:=Hd (HX.out hsa w4 HB4.out)
    have g52:(E.r.by'.length:Int)≤(p:Int)+1:=by omega
    clear hsa HX HY hyc h50
    go_wp2_with fail
    exact ⟨HZ.out,by simp only [intOf];omega⟩
   have hsa:yD E.r.by' p (xs,xk)=((E.r.by'[p+1]).1 == 26&&decide ((E.r.by'[p+1]).2.2=xs)):=by
    unfold yD
    rw [if_pos hst,List.getElem?_eq_getElem hp,List.getElem?_eq_getElem hnx]
    simp [h50]
   rw [hsa] at HX HY
   have g52:¬ (E.r.by'.length:Int)≤(p:Int)+1:=by omega
   have hq0:(0:Int)≤(p:Int)+1:=by omega
   have hql:(p:Int)+1<E.r.by'.length:=by omega
   have hqc:(p:Int)+1<cy:=by omega
   clear hsa h50
   go_upto_region 8 with (fail)
   clear n0 n1 n2 g50 g51
   obtain ⟨q0,q1,q2⟩:=hyc (p+1) hnx
   clear hyc
   generalize hqq:E.r.by'[p+1]=q at *
   clear hqq
   obtain ⟨qk,qn,qw⟩:=q
   simp only [] at q0 q1 q2 HX HY
   have HP5:Hid (PK (w4.alloc (.cells #[.int .u8 (qk:Int),.int .i64 qn,.string qw] 38)) w4.heap.size (qk,qn,qw)):=Hd (PK.alloc_new w4 (qk,qn,qw))
   have HB5:=Hd (HB4.out.alloc HB4.out.size (.cells #[.int .u8 (qk:Int),.int .i64 qn,.string qw] 38))
   have HH5:Hid (HoK (w4.alloc (.cells #[.int .u8 (qk:Int),.int .i64 qn,.string qw] 38)) wr.heap.size (xs,xk)):=Hd (HH4.out.keep ((Below.refl _ _).alloc (Nat.le_refl _) _))
   go_upto_region 9 with (fail)
   clear q0 q1 q2 c2 c4 c7 k0 k1
   generalize w4.alloc (.cells #[.int .u8 (qk:Int),.int .i64 qn,.string qw] 38)=w5 at *
   have p0:=HP5.out.c0
   have p2:=HP5.out.c2
   have k0:=HH5.out.cells.1
   simp only [] at p0 p2 k0
   by_cases h26:qk=26
   case neg =>
    have HZ:=Hd (HX.out (by simp [h26]) w5 HB5.out)
    have g26:((qk:Int) == 26)=false:=by rw [beq_eq_false_iff_ne];omega
    clear HX HY h26
    go_wp2_with fail
    exact ⟨HZ.out,by simp only [intOf];omega⟩
   subst h26
   have gw:(qw.toList == xs.toList)=decide (qw=xs):=zCg
   by_cases hw:qw=xs
   case neg =>
    have HZ:=Hd (HX.out (by simp [hw]) w5 HB5.out)
    rw [decide_eq_false hw] at gw
    clear HX HY hw
    go_wp2_with fail
    exact ⟨HZ.out,by simp only [intOf];omega⟩
   rw [decide_eq_true hw] at gw
   have HZ:=Hd (HY.out (by simp [hw]))
   have HR5:Hid (BdK w5 W.heap.size (⟨#[]⟩,0,0)):=Hd (HZB.out.keep HB5.out)
   obtain ⟨c2,c4,c7,hyc2⟩:=HCE.out w5 (zB HW1.out HB5.out)
   clear hyc2
   obtain ⟨bb,bo,hvb2,y1,y2,y3,hbc⟩:=HKB.out.at (zB HWW.out (zB HW1.out HB5.out)) (show 0<E.bs.length by omega)
   clear y1 y2 y3
   obtain ⟨b0,b1,b2⟩:=hbc k hkb
   clear hbc
   subst hvb2
   have HF5:=Hd (HR5.out.set3 (E.bs[k]))
   have HBF:=Hd (((((zB HW1.out HB5.out).setCell (p:=⟨W.heap.size,0,none⟩) (Nat.le_refl _) (.string (E.bs[k]).1)).setCell (p:=⟨W.heap.size,1,none⟩) (Nat.le_refl _) (.int .i64 (E.bs[k]).2.1))).setCell (p:=⟨W.heap.size,2,none⟩) (Nat.le_refl _) (.int .i64 (E.bs[k]).2.2))
   obtain ⟨r0,r1,r2,rz⟩:=HR5.out.fz
   obtain ⟨s0,s1,s2⟩:=HR5.out.cells
   simp only [] at s0 s1 s2
   clear HX HY hw
   generalize E.bs[k]=bd at *
   obtain ⟨bn,bf,bt⟩:=bd
   simp only [] at b0 b1 b2 HF5 HBF HZ
   go_wp2_with fail
   exact HF.out _ _ (bn,bf,bt) true HZ.out HBF.out HF5.out rfl rfl
  | false =>
   rw [hst] at CS
   go_wp2_with fail
   refine (CS.out _).mono ?_
   rintro e w4 ⟨rfl,hb4⟩
   have HH4:=Hd (HH3.out.keep hb4)
   have HB4:=Hd (zB HB3.out hb4)
   clear hb4 HB3 HH3 k0 k1 CS
   obtain ⟨k0,k1⟩:=HH4.out.cells
   obtain ⟨c2,c4,c7,hyc⟩:=HCE.out w4 (zB HW1.out HB4.out)
   have hsa:yD E.r.by' p (xs,xk)=((E.r.by'[p]).1 == 26&&decide ((E.r.by'[p]).2.2=xs)):=by
    unfold yD
    rw [if_neg (by rw [hst];decide),List.getElem?_eq_getElem hp]
   rw [hsa] at HX HY
   have g52:¬ (E.r.by'.length:Int)≤(p:Int):=by omega
   clear hsa
   go_upto_region 8 with (fail)
   obtain ⟨q0,q1,q2⟩:=hyc p hp
   clear hyc
   generalize hqq:E.r.by'[p]=q at *
   clear hqq
   obtain ⟨qk,qn,qw⟩:=q
   simp only [] at q0 q1 q2 HX HY
   have HP5:Hid (PK (w4.alloc (.cells #[.int .u8 (qk:Int),.int .i64 qn,.string qw] 38)) w4.heap.size (qk,qn,qw)):=Hd (PK.alloc_new w4 (qk,qn,qw))
   have HB5:=Hd (HB4.out.alloc HB4.out.size (.cells #[.int .u8 (qk:Int),.int .i64 qn,.string qw] 38))
   have HH5:Hid (HoK (w4.alloc (.cells #[.int .u8 (qk:Int),.int .i64 qn,.string qw] 38)) wr.heap.size (xs,xk)):=Hd (HH4.out.keep ((Below.refl _ _).alloc (Nat.le_refl _) _))
   go_upto_region 9 with (fail)
   clear q0 q1 q2 c2 c4 c7 k0 k1
   generalize w4.alloc (.cells #[.int .u8 (qk:Int),.int .i64 qn,.string qw] 38)=w5 at *
   have p0:=HP5.out.c0
   have p2:=HP5.out.c2
   have k0:=HH5.out.cells.1
   simp only [] at p0 p2 k0
   by_cases h26:qk=26
   case neg =>
    have HZ:=Hd (HX.out (by simp [h26]) w5 HB5.out)
    have g26:((qk:Int) == 26)=false:=by rw [beq_eq_false_iff_ne];omega
    clear HX HY h26
    go_wp2_with fail
    exact ⟨HZ.out,by simp only [intOf];omega⟩
   subst h26
   have gw:(qw.toList == xs.toList)=decide (qw=xs):=zCg
   by_cases hw:qw=xs
   case neg =>
    have HZ:=Hd (HX.out (by simp [hw]) w5 HB5.out)
    rw [decide_eq_false hw] at gw
    clear HX HY hw
    go_wp2_with fail
    exact ⟨HZ.out,by simp only [intOf];omega⟩
   rw [decide_eq_true hw] at gw
   have HZ:=Hd (HY.out (by simp [hw]))
   have HR5:Hid (BdK w5 W.heap.size (⟨#[]⟩,0,0)):=Hd (HZB.out.keep HB5.out)
   obtain ⟨c2,c4,c7,hyc2⟩:=HCE.out w5 (zB HW1.out HB5.out)
   clear hyc2
   obtain ⟨bb,bo,hvb2,y1,y2,y3,hbc⟩:=HKB.out.at (zB HWW.out (zB HW1.out HB5.out)) (show 0<E.bs.length by omega)
   clear y1 y2 y3
   obtain ⟨b0,b1,b2⟩:=hbc k hkb
   clear hbc
   subst hvb2
   have HF5:=Hd (HR5.out.set3 (E.bs[k]))
   have HBF:=Hd (((((zB HW1.out HB5.out).setCell (p:=⟨W.heap.size,0,none⟩) (Nat.le_refl _) (.string (E.bs[k]).1)).setCell (p:=⟨W.heap.size,1,none⟩) (Nat.le_refl _) (.int .i64 (E.bs[k]).2.1))).setCell (p:=⟨W.heap.size,2,none⟩) (Nat.le_refl _) (.int .i64 (E.bs[k]).2.2))
   obtain ⟨r0,r1,r2,rz⟩:=HR5.out.fz
   obtain ⟨s0,s1,s2⟩:=HR5.out.cells
   simp only [] at s0 s1 s2
   clear HX HY hw
   generalize E.bs[k]=bd at *
   obtain ⟨bn,bf,bt⟩:=bd
   simp only [] at b0 b1 b2 HF5 HBF HZ
   go_wp2_with fail
   exact HF.out _ _ (bn,bf,bt) true HZ.out HBF.out HF5.out rfl rfl
end Go.Proofs.YtfalelkfhandfaaGreatDoor
namespace Go.Proofs.YtfalelkfhandfaaGreatDoor
set_option maxRecDepth 100000
set_option maxHeartbeats 32000000
set_option linter.all false
attribute [local irreducible] Calls
attribute [local irreducible] wpStill
open Go.RowKit

def rcIn (r:RuleM) (k:Nat) (w0:World) (iv:Value) (wr:World):Prop:=∃ j:Nat,iv=.int .i64 (j:Int)∧j≤k∧(∀ i (hi:i<r.holes.length),i<j→(r.holes[i]).1≠((r.holes[k]?).getD (⟨#[]⟩,0)).1)∧Below w0.heap.size w0 wr
def rcOut (r:RuleM) (w0:World) (iv:Value) (wr:World):Prop:=∃ k:Nat,iv=.int .i64 (k:Int)∧k≤r.holes.length∧(∀ i,i<k→holeB r i=true)∧Below w0.heap.size w0 wr
theorem yBh {r:RuleM} {k:Nat} {s:ByteArray} (h:∀ i (hi:i<r.holes.length),i<k→(r.holes[i]).1≠s):dupB r k s=false:=by
 unfold dupB
 rw [List.any_eq_false]
 intro x hx
 obtain ⟨i,hi,rfl⟩:=List.mem_iff_getElem.1 hx
 rw [List.length_take] at hi
 rw [List.getElem_take]
 have:=h i (by omega) (by omega)
 simpa using this
theorem yAb {r:RuleM} {k i:Nat} {s:ByteArray} (hi:i<r.holes.length) (hik:i<k) (e:(r.holes[i]).1=s):dupB r k s=true:=by
 unfold dupB
 rw [List.any_eq_true]
 refine ⟨r.holes[i],?_,by simpa using e⟩
 rw [List.mem_iff_getElem]
 exact ⟨i,by rw [List.length_take];omega,by rw [List.getElem_take]⟩
theorem zOt (r:RuleM) (hs:SmallR r) (vh vf vb:Value) (w:World) (hr:RuleIn w r vh vf vb) :
  Calls Tryz.prog 45 #[ruleAgg r vh vf vb] w fun e w'=>e=.returned (.int .i64 (ruleZ r))∧Below w.heap.size w w':=by
 have HQ:Hid (∀ x w',ruleZ r=x→Below w.heap.size w w'→(fun (e:Ending) w'=>e=.returned (.int .i64 (ruleZ r))∧Below w.heap.size w w') (.returned (.int .i64 x)) w'):=Hd fun x w' h hb=>⟨by rw [h],hb⟩
 generalize (fun (e:Ending) w'=>e=.returned (.int .i64 (ruleZ r))∧Below w.heap.size w w')=Q at *
 have HS:=Hd hs
 obtain ⟨ah,ch,rfl,hch⟩:=Row.shape hr.H
 obtain ⟨af,cf,rfl,hcf⟩:=hr.F.slice
 obtain ⟨ab,cb,rfl,hcb⟩:=hr.B.slice
 have HR:=Hd hr
 have HTOP:Hid (ruleTop r=(name r.nm&&(decide (1≤r.goal∧r.goal≤3)&&(checkB r.fnd&&(checkB r.by'&&!(decide (r.goal=3)&&decide (yJ r.by' 0≠13))))))):=Hd rfl
 have HR1:Hid (RK (w.alloc (.cells #[.string r.nm,.int .u8 (r.goal:Int),.slice ah r.holes.length ch,.slice af r.fnd.length cf,.slice ab r.by'.length cb] 36)) w.heap.size r.nm r.goal (.slice ah r.holes.length ch) (.slice af r.fnd.length cf) (.slice ab r.by'.length cb)):=Hd (heap_alloc_new _ _)
 have HB1:Hid (Below w.heap.size w (w.alloc (.cells #[.string r.nm,.int .u8 (r.goal:Int),.slice ah r.holes.length ch,.slice af r.fnd.length cf,.slice ab r.by'.length cb] 36))):=Hd ((Below.refl _ _).alloc (Nat.le_refl _) _)
 have hhl:=hs.h.1
 have hgl:=hs.g
 have hnl:=hs.n
 clear hr hs
 unfold ruleAgg
 obtain ⟨e0,e1,e2,e3,e4⟩:=HR1.out.cells
 go_enter Tryz.func45,Tryz.ntmps45
 go_wp2_with fail
 generalize w.alloc (.cells #[.string r.nm,.int .u8 (r.goal:Int),.slice ah r.holes.length ch,.slice af r.fnd.length cf,.slice ab r.by'.length cb] 36)=W1 at *
 have C1:=Hd (zHx r.nm W1 (by omega))
 go_wp2_with fail
 refine C1.out.mono ?_
 rintro e w2 ⟨rfl,hb2⟩
 have HR2:=Hd (HR1.out.below hb2)
 have HB2:=Hd (zB HB1.out hb2)
 clear hb2 C1 HB1 HR1 e0 e1 e2 e3 e4
 obtain ⟨e0,e1,e2,e3,e4⟩:=HR2.out.cells
 cases hnm:name r.nm with
 | false =>
  have HX:=Hd (HQ.out 10 w2 (kE (by rw [HTOP.out,hnm];rfl)) HB2.out)
  clear hnm
  go_wp2_with fail
  exact HX.out
 | true =>
 have HTOP2:=HTOP.out
 rw [hnm,Bool.true_and] at HTOP2
 have HTOP:=Hd HTOP2
 clear HTOP2 hnm
 by_cases hg1:r.goal<1
 ·have g1:(r.goal:Int)<1:=by omega
  have HX:=Hd (HQ.out 10 w2 (kE (by rw [HTOP.out,decide_eq_false (by omega)];rfl)) HB2.out)
  go_wp2_with fail
  exact HX.out
 by_cases hg3:3<r.goal
 ·have g1:¬ (r.goal:Int)<1:=by omega
  have g2:(3:Int)<(r.goal:Int):=by omega
  have HX:=Hd (HQ.out 10 w2 (kE (by rw [HTOP.out,decide_eq_false (by omega)];rfl)) HB2.out)
  go_wp2_with fail
  exact HX.out
 have g1:¬ (r.goal:Int)<1:=by omega
 have g2:¬ (3:Int)<(r.goal:Int):=by omega
 have HTOP2:=HTOP.out
 rw [decide_eq_true (show 1≤r.goal∧r.goal≤3 by omega),Bool.true_and] at HTOP2
 have HTOP:=Hd HTOP2
 have C2:=Hd (zEx r.fnd (by have:=HS.out.f.1;omega) HS.out.f.fine _ w2 (HR.out.F.below HB2.out))
 clear HTOP2 hg1 hg3
 go_wp2_with fail
 refine C2.out.mono ?_
 rintro e w3 ⟨rfl,hb3⟩
 have HR3:=Hd (HR2.out.below hb3)
 have HB3:=Hd (zB HB2.out hb3)
 clear hb3 C2 HB2 HR2 e0 e1 e2 e3 e4
 obtain ⟨e0,e1,e2,e3,e4⟩:=HR3.out.cells
 cases hcf2:checkB r.fnd with
 | false =>
  have HX:=Hd (HQ.out 10 w3 (kE (by rw [HTOP.out,hcf2];rfl)) HB3.out)
  clear hcf2
  simp only [Bool.false_eq_true,if_false]
  go_wp2_with fail
  exact HX.out
 | true =>
 have HCF:=Hd hcf2
 have HTOP2:=HTOP.out
 rw [hcf2,Bool.true_and] at HTOP2
 have HTOP:=Hd HTOP2
 have C3:=Hd (zEx r.by' (by have:=HS.out.b.1;omega) HS.out.b.fine _ w3 (HR.out.B.below HB3.out))
 clear HTOP2 hcf2
 simp only [if_true]
 go_wp2_with fail
 refine C3.out.mono ?_
 rintro e w4 ⟨rfl,hb4⟩
 have HR4:=Hd (HR3.out.below hb4)
 have HB4:=Hd (zB HB3.out hb4)
 clear hb4 C3 HB3 HR3 e0 e1 e2 e3 e4
 obtain ⟨e0,e1,e2,e3,e4⟩:=HR4.out.cells
 cases hcb2:checkB r.by' with
 | false =>
  have HX:=Hd (HQ.out 10 w4 (kE (by rw [HTOP.out,hcb2];rfl)) HB4.out)
  clear hcb2
  simp only [Bool.false_eq_true,if_false]
  go_wp2_with fail
  exact HX.out
 | true =>
 have HCB:=Hd hcb2
 have HTOP2:=HTOP.out
 rw [hcb2,Bool.true_and] at HTOP2
 have HTOP:=Hd HTOP2
 have hb0:=(xA (vB hcb2).1).1
 clear HTOP2 hcb2
 simp only [if_true]
 have hbr:=HR.out.B
 obtain ⟨bb,bo,rfl,_,_,hblt,hbc⟩:=hbr.at HB4.out hb0
 obtain ⟨f0,_,_⟩:=hbc 0 hb0
 rw [Nat.zero_mul,Nat.add_zero] at f0
 have hb0i:(0:Int)<(r.by'.length:Int):=by omega
 have HK0:Hid (yJ r.by' 0=(r.by'[0]).1):=Hd (by unfold yJ;rw [List.getElem?_eq_getElem hb0])
 clear hbc hbr
 generalize (r.by'[0]).1=k0 at *
 by_cases hg13:r.goal=3∧k0≠13
 ·have g3:((r.goal:Int) == 3)=true:=by rw [beq_iff_eq];omega
  have g4:((k0:Int) != 13)=true:=by rw [bne_iff_ne];omega
  have HX:=Hd (HQ.out 10 w4 (kE (by rw [HTOP.out,HK0.out,decide_eq_true hg13.1,decide_eq_true hg13.2];rfl)) HB4.out)
  clear hg13
  go_wp2_with fail
  exact HX.out
 have HT1:Hid (ruleTop r=true):=Hd (by
  rw [HTOP.out,HK0.out]
  by_cases h3:r.goal=3
  ·have h13:k0=13:=Decidable.not_not.1 fun h=>hg13 ⟨h3,h⟩
   rw [h13];simp
  ·rw [decide_eq_false h3];rfl)
 have HG13:Hid (((r.goal:Int) == 3)=false∨(((r.goal:Int) == 3)=true∧((k0:Int) != 13)=false)):=Hd (by
  by_cases h3:r.goal=3
  ·have h13:k0=13:=Decidable.not_not.1 fun h=>hg13 ⟨h3,h⟩
   right;exact ⟨by rw [beq_iff_eq];omega,by rw [bne_eq_false_iff_eq];omega⟩
  ·left;rw [beq_eq_false_iff_ne];omega)
 clear hg13 HTOP HK0
 rcases HG13.out with hg3 | ⟨hg3,hg4⟩
 all_goals
  go_upto_region 3 with (fail)
  clear f0
  go_wp2_with fail
  clear e0 e1 e2 e3 e4
  go_loopw [3,4] (fun cv iv wr=>rcOne r.holes w4 cv iv wr) (fun _ iv _=>r.holes.length-(intOf iv).toNat)
  case atStart=>exact ⟨0,0,rfl,rfl,Nat.zero_le _,rfl,Below.refl _ _⟩
  case round =>
   obtain ⟨k,n,rfl,rfl,hk,hn,hb⟩:=hrel
   have HB:=Hd hb
   have HN:=Hd hn
   have hnk:n≤k:=by
    have:=zLb (r.holes.take k)
    rw [List.length_take] at this
    omega
   clear hb hn
   have hwk:IntKind.i64.wrap ((k:Int)+1)=(k:Int)+1:=wI (by omega)
   have hwn:IntKind.i64.wrap ((n:Int)+1)=(n:Int)+1:=wI (by omega)
   have HR5:=Hd (HR4.out.below HB.out)
   obtain ⟨e0,e1,e2,e3,e4⟩:=HR5.out.cells
   by_cases hlt:k<r.holes.length
   ·have hkl:(k:Int)<r.holes.length:=by omega
    have hk0:(0:Int)≤(k:Int):=by omega
    have hkc:(k:Int)<(ch:Int):=by omega
    obtain ⟨b1,o1,rfl,_,_,_,hc1⟩:=HR.out.H.at (zB HB4.out HB.out) (show 0<r.holes.length by omega)
    obtain ⟨d0,d1⟩:=hc1 k hlt
    have HSV:=Hd (zDy hlt)
    have HMS:Hid (r.holes.length-(k+1)<r.holes.length-k):=Hd (by omega)
    have CSV:=Hd (zFl (r.holes[k]).1 (r.holes[k]).2 wr)
    have HNT:Hid (isSev (r.holes[k]).2=true→n+1=sevN (r.holes.take (k+1))):=Hd fun h=>by rw [HSV.out,if_pos h,HN.out]
    have HNF:Hid (isSev (r.holes[k]).2=false→n=sevN (r.holes.take (k+1))):=Hd fun h=>by rw [HSV.out,if_neg (by rw [h];simp),HN.out];rfl
    clear hc1 HSV
    generalize (r.holes[k]).1=hn1 at *
    generalize (r.holes[k]).2=hk1 at *
    go_wp2_with fail
    refine CSV.out.mono ?_
    rintro e w5 ⟨rfl,hb5⟩
    have HB5:=Hd (zB HB.out hb5)
    clear hb5 CSV d0 d1 e0 e1 e2 e3 e4
    cases hsv:isSev hk1 with
    | true =>
     have HX:=Hd (HNT.out hsv)
     clear hsv
     go_wp2_with fail
     exact ⟨⟨k+1,n+1,by push_cast;rfl,by push_cast;rfl,by omega,HX.out,HB5.out⟩,HMS.out⟩
    | false =>
     have HX:=Hd (HNF.out hsv)
     clear hsv
     go_wp2_with fail
     exact ⟨⟨k+1,n,by push_cast;rfl,rfl,by omega,HX.out,HB5.out⟩,HMS.out⟩
   ·obtain rfl:k=r.holes.length:=by omega
    have hkl:¬ (r.holes.length:Int)<r.holes.length:=by omega
    have hn2:n=sevN r.holes:=by have:=HN.out;rw [zGl] at this;exact this
    by_cases hl16:16<r.holes.length
    ·have g5:(16:Int)<(r.holes.length:Int):=by omega
     have HX:=Hd (HQ.out 14 wr (fT HT1.out (Or.inl hl16)) (zB HB4.out HB.out))
     go_wp2_with fail
     exact HX.out
    have g5:¬ (16:Int)<(r.holes.length:Int):=by omega
    have HL16:Hid (r.holes.length≤16):=Hd (by omega)
    by_cases hs2:2<n
    ·have g6:(2:Int)<(n:Int):=by omega
     have HX:=Hd (HQ.out 14 wr (fT HT1.out (Or.inr (by omega))) (zB HB4.out HB.out))
     clear hn2 hs2
     go_wp2_with fail
     exact HX.out
    have g6:¬ (2:Int)<(n:Int):=by omega
    have HS2:Hid (sevN r.holes≤2):=Hd (by omega)
    have HB5:=Hd (zB HB4.out HB.out)
    clear hs2 hn2 HN hl16
    go_wp2_with fail
    clear e0 e1 e2 e3 e4
    obtain ⟨w9,rfl⟩:∃ w9,w9=wr:=⟨_,rfl⟩
    go_loopw [5] (fun iv wr=>rcOut r w9 iv wr) (fun iv _=>r.holes.length-(intOf iv).toNat)
    case atStart=>exact ⟨0,rfl,Nat.zero_le _,fun i hi=>by omega,Below.refl _ _⟩
    case round =>
     obtain ⟨k,rfl,hk,hok,hb⟩:=hrel
     have HB7:Hid (Below w.heap.size w wr):=Hd (zB HB5.out hb)
     have HR7:=Hd (HR5.out.below hb)
     have HB:=Hd hb
     have HOK:=Hd hok
     clear hb hok
     have hwk:IntKind.i64.wrap ((k:Int)+1)=(k:Int)+1:=by rw [IntKind.wrap_i64];have:=HL16.out;omega
     obtain ⟨e0,e1,e2,e3,e4⟩:=HR7.out.cells
     by_cases hlt:k<r.holes.length
     ·have hkl:(k:Int)<r.holes.length:=by omega
      have hk0:(0:Int)≤(k:Int):=by omega
      have hkc:(k:Int)<(ch:Int):=by omega
      obtain ⟨b1,o1,rfl,_,_,_,hc1⟩:=HR.out.H.at HB7.out (show 0<r.holes.length by omega)
      obtain ⟨d0,d1⟩:=hc1 k hlt
      have HHB:=Hd (zGj hlt)
      have hsz:=(HS.out.h.2 _ (List.getElem_mem hlt)).1
      have HGD:Hid (((r.holes[k]?).getD (⟨#[]⟩,0)).1=(r.holes[k]).1):=Hd (by rw [List.getElem?_eq_getElem hlt];rfl)
      have HHC:Hid (∀ W,Below w.heap.size w W→∀ j (hj:j<r.holes.length),W.cell? ⟨b1,o1+j*2,none⟩=some (.string (r.holes[j]).1)):=Hd fun W hb j hj=>by
       obtain ⟨b',o',e',_,_,_,hcc⟩:=HR.out.H.at hb (show 0<r.holes.length by omega)
       simp only [Option.some.injEq,Addr.mk.injEq,and_true] at e'
       obtain ⟨rfl,rfl⟩:=e'
       exact (hcc j hj).1
      obtain ⟨h,hh⟩:∃ h,h=r.holes[k]:=⟨_,rfl⟩
      rw [← hh] at d0 d1 HHB hsz HGD
      obtain ⟨hn1,hk1⟩:=h
      simp only [] at d0 d1 HHB hsz HGD
      have HHH:=Hd hh
      have HMS:Hid (r.holes.length-(k+1)<r.holes.length-k):=Hd (by omega)
      have HERR:Hid (∀ w',holeB r k=false→Below w.heap.size w w'→Q (.returned (.int .i64 11)) w'):=Hd fun w' h hb=>HQ.out 11 w' (zGk HT1.out HL16.out HS2.out hlt h) hb
      have HNEXT:Hid (∀ w',holeB r k=true→Below w9.heap.size w9 w'→rcOut r w9 (.int .i64 ((k:Int)+1)) w'):=Hd fun w' h hb=>⟨k+1,by push_cast;rfl,by omega,fun i hi=>by
       by_cases e:i=k
       ·subst e;exact h
       ·exact HOK.out i (by omega),hb⟩
      have hA:Below wr.heap.size wr (wr.alloc (.cells #[.string hn1,.int .u8 (hk1:Int)] 49)):=(Below.refl _ _).alloc (Nat.le_refl _) _
      have HB2:=Hd (zB HB.out hA)
      have HR8:=Hd (HR7.out.below hA)
      have HK2:Hid ((wr.alloc (.cells #[.string hn1,.int .u8 (hk1:Int)] 49)).heap[wr.heap.size]?=some (.cells #[.string hn1,.int .u8 (hk1:Int)] 49 (0,0))):=Hd (heap_alloc_new _ _)
      clear hc1 hA hsz hh
      have hk16:k≤16:=by have:=HL16.out;omega
      go_upto_region 15 with (fail)
      clear d0 d1 e0 e1 e2 e3 e4
      generalize wr.alloc (.cells #[.string hn1,.int .u8 (hk1:Int)] 49)=W2 at *
      generalize wr.heap.size=gh at *
      go_wp2_with fail
      go_loopw [7] (fun iv wr=>rcIn r k W2 iv wr) (fun iv _=>k-(intOf iv).toNat)
      case atStart=>exact ⟨0,rfl,Nat.zero_le _,fun i _ hi=>by omega,Below.refl _ _⟩
      case round =>
       obtain ⟨j,rfl,hjk,hno,hb⟩:=hrel
       rw [HGD.out] at hno
       have HNO:=Hd hno
       have HB3:=Hd (zB HB2.out hb)
       have HBI:=Hd hb
       have HR9:=Hd (HR8.out.below hb)
       have HK3:=Hd (keeps hb HK2.out)
       clear hb hno
       obtain ⟨e0,e1,e2,e3,e4⟩:=HR9.out.cells
       have g0:wr.cell? ⟨gh,0,none⟩=some (.string hn1):=by simp [World.cell?,HK3.out]
       have g1:wr.cell? ⟨gh,1,none⟩=some (.int .u8 (hk1:Int)):=by simp [World.cell?,HK3.out]
       have HB4b:=Hd (zB HB5.out HB3.out)
       by_cases hjlt:j<k
       ·have hjl:j<r.holes.length:=by omega
        have d0:=HHC.out wr HB4b.out j hjl
        have hji:(j:Int)<(k:Int):=by omega
        have hj0:(0:Int)≤(j:Int):=by omega
        have hjh:(j:Int)<r.holes.length:=by omega
        have hjc:(j:Int)<(ch:Int):=by omega
        have hwj:IntKind.i64.wrap ((j:Int)+1)=(j:Int)+1:=wI (by omega)
        by_cases he:(r.holes[j]).1=hn1
        ·have HX:=Hd (fun nq=>HERR.out (wr.drewN nq) (by rw [HHB.out,yAb hjl hjlt he];rfl) (drewB HB4b.out nq))
         rw [he] at d0
         clear he
         go_upto_region 18 with (fail)
         go_quiet (fail)
         go_wp2_with fail
         exact HX.out _
        ·have HX:Hid (∀ W,Below W2.heap.size W2 W→rcIn r k W2 (.int .i64 ((j:Int)+1)) W):=Hd fun W hb=>⟨j+1,by push_cast;rfl,by omega,fun i hi hij=>by
          rw [HGD.out]
          by_cases e:i=j
          ·subst e;exact he
          ·exact HNO.out i hi (by omega),hb⟩
         have HY:=Hd (fun nq=>HX.out _ (drewB HBI.out nq))
         have g2:((r.holes[j]).1.toList == hn1.toList)=false:=by rw [beq_eq_false_iff_ne];exact yG he
         clear he
         generalize (r.holes[j]).1=hj1 at *
         go_upto_region 18 with (fail)
         go_quiet (fail)
         go_wp2_with fail
         exact ⟨HY.out _,by simp only [intOf];omega⟩
       ·obtain rfl:j=k:=by omega
        have hji:¬ (j:Int)<(j:Int):=by omega
        have HDN:Hid (dupB r j hn1=false):=Hd (yBh HNO.out)
        have CN:=Hd (zHx hn1 wr (by have:=(HS.out.h.2 _ (List.getElem_mem hlt)).1;rw [← HHH.out] at this;simp only [] at this;omega))
        have hhb:=HHB.out
        rw [HDN.out,Bool.not_false,Bool.true_and] at hhb
        have HHB:=Hd hhb
        clear hhb
        go_wp2_with fail
        refine CN.out.mono ?_
        rintro e w5 ⟨rfl,hb5⟩
        have HB6:=Hd (zB HB4b.out hb5)
        have HB6i:=Hd (zB HB3.out hb5)
        have HK5:=Hd (keeps hb5 HK3.out)
        have HR10:=Hd (HR9.out.below hb5)
        clear hb5 CN g0 g1 e0 e1 e2 e3 e4
        have g0:w5.cell? ⟨gh,0,none⟩=some (.string hn1):=by simp [World.cell?,HK5.out]
        have g1:w5.cell? ⟨gh,1,none⟩=some (.int .u8 (hk1:Int)):=by simp [World.cell?,HK5.out]
        obtain ⟨e0,e1,e2,e3,e4⟩:=HR10.out.cells
        cases hnm:name hn1 with
        | false =>
         have HX:=Hd (HERR.out w5 (by rw [HHB.out,hnm];rfl) HB6.out)
         clear hnm
         go_wp2_with fail
         exact HX.out
        | true =>
        have hhb:=HHB.out
        rw [hnm,Bool.true_and] at hhb
        have HHB:=Hd hhb
        clear hnm hhb
        by_cases hk1l:hk1<1
        ·have q1:(hk1:Int)<1:=by omega
         have HX:=Hd (HERR.out w5 (by rw [HHB.out,decide_eq_false (by omega)];rfl) HB6.out)
         clear hk1l
         go_wp2_with fail
         exact HX.out
        by_cases hk7:7<hk1
        ·have q1:¬ (hk1:Int)<1:=by omega
         have q2:(7:Int)<(hk1:Int):=by omega
         have HX:=Hd (HERR.out w5 (by rw [HHB.out,decide_eq_false (by omega)];rfl) HB6.out)
         clear hk1l hk7
         go_wp2_with fail
         exact HX.out
        have q1:¬ (hk1:Int)<1:=by omega
        have q2:¬ (7:Int)<(hk1:Int):=by omega
        have hhb:=HHB.out
        rw [decide_eq_true (show 1≤hk1∧hk1≤7 by omega),Bool.true_and] at hhb
        have HHB:=Hd hhb
        clear hhb hk1l hk7
        have CP1:=Hd (zIc r.fnd (by have:=HS.out.f.1;omega) _ (zK (vB HCF.out).1) _ (hn1,hk1) w5 (HR.out.F.below HB6.out))
        go_wp2_with fail
        refine CP1.out.mono ?_
        rintro e w6 ⟨rfl,hb6⟩
        have HB7:=Hd (zB HB6.out hb6)
        have HB7i:=Hd (zB HB6i.out hb6)
        have HK6:=Hd (keeps hb6 HK5.out)
        have HR11:=Hd (HR10.out.below hb6)
        clear hb6 CP1 g0 g1 e0 e1 e2 e3 e4
        have g0:w6.cell? ⟨gh,0,none⟩=some (.string hn1):=by simp [World.cell?,HK6.out]
        have g1:w6.cell? ⟨gh,1,none⟩=some (.int .u8 (hk1:Int)):=by simp [World.cell?,HK6.out]
        obtain ⟨e0,e1,e2,e3,e4⟩:=HR11.out.cells
        have CP2:=Hd (zIc r.by' (by have:=HS.out.b.1;omega) _ (zK (vB HCB.out).1) _ (hn1,hk1) w6 (HR.out.B.below HB7.out))
        generalize yU r.fnd (hn1,hk1)=z1 at *
        generalize yU r.by' (hn1,hk1)=z2 at *
        by_cases hz1:z1<1
        ·have HX:=Hd (HERR.out w6 (by rw [HHB.out,decide_eq_false (by omega)];rfl) HB7.out)
         go_wp2_with fail
         exact HX.out
        have hhb:=HHB.out
        rw [decide_eq_true (show 1≤z1 by omega),Bool.true_and] at hhb
        have HHB:=Hd hhb
        clear hhb
        go_wp2_with fail
        refine CP2.out.mono ?_
        rintro e w7 ⟨rfl,hb7⟩
        have HB8:=Hd (zB HB7.out hb7)
        have HB8i:=Hd (zB HB7i.out hb7)
        clear hb7 CP2 g0 g1 e0 e1 e2 e3 e4
        by_cases hz2:z2<0
        ·have HX:=Hd (HERR.out w7 (by rw [HHB.out,decide_eq_false (by omega)]) HB8.out)
         go_wp2_with fail
         exact HX.out
        ·have HX:=Hd (HNEXT.out w7 (by rw [HHB.out,decide_eq_true (by omega)]) HB8i.out)
         go_wp2_with fail
         exact ⟨HX.out,HMS.out⟩
     ·obtain rfl:k=r.holes.length:=by omega
      have hkl:¬ (r.holes.length:Int)<r.holes.length:=by omega
      have HX:=Hd (HQ.out 0 wr (zLa HT1.out HL16.out HS2.out HOK.out) HB7.out)
      go_wp2_with fail
      exact HX.out
end Go.Proofs.YtfalelkfhandfaaGreatDoor
namespace Go.Proofs.YtfalelkfhandfaaGreatDoor
set_option linter.all false
attribute [local irreducible] Calls
attribute [local irreducible] wpStill
open Go.RowKit

def natV (ns:List Nat):List Value:=ns.map fun (n:Nat)=>Value.int .i64 (n:Int)
end Go.Proofs.YtfalelkfhandfaaGreatDoor
namespace Go.Proofs.YtfalelkfhandfaaGreatDoor
set_option maxRecDepth 100000
set_option maxHeartbeats 32000000
set_option linter.all false
open Go.RowKit

@[irreducible] def kidsOwn (ks:List Nat) (w0:World) (e:Ending) (w':World):Prop :=
 ∃ v,e=.returned v∧Below w0.heap.size w0 w'∧w'.ownsRow w0.heap.size 3 1 v ks.length (natV ks)
theorem zFk (l:List Prt) (hl:l.length≤1000000000) (us:List Nat) (hus:zG l=some us) (v:Value) (i:Nat) (hi:i<l.length) (w:World) (hr:zD w v l) :
  Calls Tryz.prog 50 #[v,.int .i64 (i:Int)] w (kidsOwn (kidsB l i) w):=by
 have HQ:Hid (∀ v' w',Below w.heap.size w w'→w'.ownsRow w.heap.size 3 1 v' (kidsB l i).length (natV (kidsB l i))→kidsOwn (kidsB l i) w (.returned v') w'):=Hd fun v' w' h2 h3=>by
  unfold kidsOwn;exact ⟨v',rfl,h2,h3⟩
 have HR:=Hd hr
 obtain ⟨va,vcap,rfl,hvc⟩:=hr.slice
 clear hr
 obtain ⟨ts,q,f1,f2,f3,f4,f5⟩:=fH hus hi
 have HST:=Hd (fun n (hn:n<q)=>fI hus f1 f3 hn)
 have HCE:=Hd (fun (W':World) (hb:Below w.heap.size w W') k (hk:k<l.length)=>show Calls Tryz.prog 28 #[.slice va l.length vcap,.int .i64 (k:Int)] W' fun e w'=>e=.returned (.int .i64 (zC l k:Int))∧W'=w' by
  have:=gT l hl _ k (by omega) W' (HR.out.below hb)
  rw [zBr hus hk] at this
  exact this)
 have HK5:=Hd f5
 have HE4:=Hd f4
 have HQT:=Hd f3
 have hqt:ts.length≤l.length:=by have:=(yM f1).2.1;rw [List.length_drop] at this;omega
 have hqb:q≤1000000000:=by omega
 have hee:=(zN hus hi).2
 rw [f4] at hee
 obtain ⟨b,off,rfl,_,_,_,hcell⟩:=HR.out.at (Below.refl _ _) (show 0<l.length by omega)
 have hc1:=(hcell i hi).2.1
 rw [f2] at hc1
 have HC:Hid (∀ W',Below w.heap.size w W'→W'.cell? ⟨b,off+i*3+1,none⟩=some (.int .i64 (q:Int))):=Hd fun W' hb=>by
  obtain ⟨b',off',hbb,_,_,_,hcc⟩:=HR.out.at hb (show 0<l.length by omega)
  simp only [Option.some.injEq,Addr.mk.injEq,and_true] at hbb
  obtain ⟨rfl,rfl⟩:=hbb
  rw [(hcc i hi).2.1,f2]
 generalize kidsOwn (kidsB l i) w=Q at *
 have hji:(i:Int)<l.length:=by omega
 have hj0:(0:Int)≤i:=by omega
 have hjc:(i:Int)<vcap:=by omega
 have hwj:IntKind.i64.wrap ((i:Int)+1)=(i:Int)+1:=wI (by omega)
 clear f1 f2 f3 f4 f5 hcell hc1
 go_enter Tryz.func50,Tryz.ntmps50
 go_wp2_with fail
 go_loopw [5,6,7] (fun v k c wr=>∃ n:Nat,c=.int .i64 (n:Int)∧n≤q∧k=.int .i64 ((i+1+(ts.take n).sum:Nat):Int)∧wr.ownsRow w.heap.size 3 1 v n (((starts (i+1) ts).take n).map fun (x:Nat)=>Value.int .i64 (x:Int))∧Below w.heap.size w wr) (fun _ _ c _=>q-(intOf c).toNat)
 case atStart=>exact ⟨0,rfl,Nat.zero_le _,by simp,World.ownsRow_nil _ _ _ _,Below.refl _ _⟩
 case round =>
  obtain ⟨n,rfl,hn,rfl,ho,hb⟩:=hrel
  have HO:=Hd ho
  have HB:=Hd hb
  have HNN:=Hd hn
  obtain ⟨_,oa,oc,rfl,_,_,_⟩:=Row.of_owns ho
  have d0:=HC.out _ HB.out
  have hbs:=hb.size
  clear ho hb hn
  by_cases hlt:n<q
  ·obtain ⟨g1,g2,g3,g4,g5,g6⟩:=HST.out n hlt
   have HG3:=Hd g3
   have hlt':(n:Int)<q:=by omega
   have hC:=fun W' hb=>HCE.out W' hb _ g1
   rw [g2] at hC
   have HCK:=Hd hC
   have hnb:n≤1000000000:=by omega
   have HN1:Hid (n+1≤q):=Hd hlt
   have HMS:Hid (q-(n+1)<q-n):=Hd (by omega)
   have hwn:IntKind.i64.wrap ((n:Int)+1)=(n:Int)+1:=wI (by omega)
   clear g1 g2 g3 g4 g5 g6 hC
   generalize hK1:i+1+(ts.take n).sum=K1 at *
   generalize hK2:i+1+(ts.take (n+1)).sum=K2 at *
   have HK2:=Hd hK2
   clear hK1 hK2
   go_wp2_with (at_builtin;refine yR wr #[.int .i64 (K1:Int)] _ rfl _ _ 27 3 rfl Tryz.underlying27 w.heap.size xY rfl (by decide) _ _ _ rfl HO.out 1 1 rfl rfl (by decide) (by intro u hu;simp at hu;subst hu;rfl) (by omega) (by omega) hbs ?_)
   intro v' w' hown hgr _
   have hb':=vZ HB.out hbs HO.out hgr
   have CK:=Hd (HCK.out w' hb')
   have HRL:Hid (w'.ownsRow w.heap.size 3 1 v' (n+1) (((starts (i+1) ts).take (n+1)).map fun (x:Nat)=>Value.int .i64 (x:Int))∧Below w.heap.size w w'):=Hd ⟨by have h:=hown;rw [HG3.out];simpa using h,hb'⟩
   obtain ⟨_,va',vc',rfl,_,_,_⟩:=Row.of_owns hown
   clear hown hgr hb' d0
   go_wp2_with fail
   refine CK.out.mono ?_
   rintro e w2 ⟨rfl,rfl⟩
   go_wp2_with fail
   refine ⟨⟨n+1,congrArg (Value.int .i64) (by omega),HN1.out,by rw [HK2.out],HRL.out.1,HRL.out.2⟩,?_⟩
   have:=HMS.out
   simp only [intOf]
   omega
  ·have hnq:n=q:=by have:=HNN.out;omega
   subst hnq
   have HRW:Hid (wr.ownsRow w.heap.size 3 1 (.slice oa n oc) (kidsB l i).length (natV (kidsB l i))):=Hd (by
    have e:(kidsB l i).length=n:=by rw [HK5.out,List.length_take,xN];have:=HQT.out;omega
    rw [e,HK5.out];exact HO.out)
   go_wp2_with fail
   exact HQ.out _ _ HB.out HRW.out
end Go.Proofs.YtfalelkfhandfaaGreatDoor
namespace Go.Proofs.YtfalelkfhandfaaGreatDoor
set_option maxRecDepth 100000
set_option maxHeartbeats 32000000
set_option linter.all false
attribute [local irreducible] Calls
open Go.RowKit

def rcRel18 (rs:List RuleX) (w0:World) (iv:Value) (wr:World):Prop:=∃ k:Nat,iv=.int .i64 (k:Int)∧k≤rs.length∧xQ (rs.map (·.1))=xQ ((rs.drop k).map (·.1))∧Below w0.heap.size w0 wr
theorem zOr (rs:List RuleX) (hs:∀ x∈rs,SmallR x.1) (hn:rs.length≤1048576) (l:List Prt) (hl:l.length≤1048576) (vr vl:Value) (w:World) (hr:xZ w vr rs) (hlr:zD w vl l) :
  Calls Tryz.prog 23 #[vr,vl] w fun e w'=>e=.returned (.int .i64 (yX (rs.map (·.1)) l))∧Below w.heap.size w w':=by
 have HQ:Hid (∀ x w',yX (rs.map (·.1)) l=x→Below w.heap.size w w'→(fun (e:Ending) w'=>e=.returned (.int .i64 (yX (rs.map (·.1)) l))∧Below w.heap.size w w') (.returned (.int .i64 x)) w'):=Hd fun x w' h hb=>⟨by rw [h],hb⟩
 generalize (fun (e:Ending) w'=>e=.returned (.int .i64 (yX (rs.map (·.1)) l))∧Below w.heap.size w w')=Q at *
 have HF:Hid (yX (rs.map (·.1)) l=if zZ l=false then 8 else if 32<rs.length then 14 else xQ (rs.map (·.1))):=Hd (by unfold yX;rw [List.length_map])
 obtain ⟨ar,cr,rfl,hcr⟩:=hr.shape
 obtain ⟨al,cl,rfl,hcl⟩:=hlr.slice
 have CW:=Hd (zCt l (by omega) _ w hlr)
 have HS:=Hd hs
 have HR:=Hd hr
 clear hr hlr hs
 go_enter Tryz.func23,Tryz.ntmps23
 go_wp2_with fail
 refine CW.out.mono ?_
 rintro e W1 ⟨rfl,rfl⟩
 clear CW
 cases hw:zZ l with
 | false =>
  have HX:=Hd (HQ.out 8 w (by rw [HF.out,hw];rfl) (Below.refl _ _))
  clear hw
  go_wp2_with fail
  exact HX.out
 | true =>
 have HW:=Hd hw
 clear hw
 by_cases h32:32<rs.length
 ·have HX:=Hd (HQ.out 14 w (by rw [HF.out,HW.out,if_neg (by simp),if_pos h32]) (Below.refl _ _))
  have g1:(32:Int)<rs.length:=by omega
  go_wp2_with fail
  exact HX.out
 have HFE:Hid (yX (rs.map (·.1)) l=xQ (rs.map (·.1))):=Hd (by rw [HF.out,HW.out,if_neg (by simp),if_neg h32])
 have h32':(rs.length:Int)≤32:=by omega
 clear h32
 go_wp2_with fail
 go_loopw [5] (fun iv wr=>rcRel18 rs w iv wr) (fun iv _=>rs.length-(intOf iv).toNat)
 case atStart=>exact ⟨0,rfl,Nat.zero_le _,rfl,Below.refl _ _⟩
 case round =>
  obtain ⟨k,rfl,hk,hfe,hb⟩:=hrel
  have HB:=Hd hb
  have HE:=Hd hfe
  clear hb hfe
  by_cases hlt:k<rs.length
  ·obtain ⟨b,off,rfl,_,_,hbl,hcell⟩:=HR.out.at HB.out (show 0<rs.length by omega)
   obtain ⟨d0,d1,d2,d3,d4⟩:=hcell k hlt
   have hin:=HR.out.E _ (List.getElem_mem hlt)
   have hsm:=HS.out _ (List.getElem_mem hlt)
   have HE2:Hid (xQ (rs.map (·.1))=if ruleZ (rs[k]).1=0 then xQ ((rs.drop (k+1)).map (·.1)) else ruleZ (rs[k]).1):=Hd (by
    rw [HE.out,List.drop_eq_getElem_cons hlt,List.map_cons,xQ])
   generalize rs[k]=x at *
   obtain ⟨r,vh,vf,vb⟩:=x
   simp only [] at d0 d1 d2 d3 d4 hin hsm HE2
   obtain ⟨ah,ch,rfl,hch⟩:=Row.shape hin.H
   obtain ⟨af,cf,rfl,hcf⟩:=hin.F.slice
   obtain ⟨ab,cb,rfl,hcb⟩:=hin.B.slice
   have hk0:(0:Int)≤(k:Int):=by omega
   have hkl:(k:Int)<rs.length:=by omega
   have hkc:(k:Int)<(cr:Int):=by omega
   have CR:=Hd (zOt r hsm _ _ _ _ (hin.below HB.out))
   unfold ruleAgg at CR
   clear hcell hin hsm
   go_wp2_with fail
   refine CR.out.mono ?_
   rintro e W3 ⟨rfl,hb3⟩
   have HB3:=Hd (zB HB.out hb3)
   clear hb3 CR d0 d1 d2 d3 d4
   by_cases hz:ruleZ r=0
   ·have HX:Hid (rcRel18 rs w (.int .i64 ((k:Int)+1)) W3):=Hd ⟨k+1,by push_cast;rfl,hlt,by rw [HE2.out,if_pos hz],HB3.out⟩
    rw [hz]
    clear hz
    go_wp2_with fail
    exact ⟨HX.out,by simp only [intOf];omega⟩
   ·have HX:=Hd (HQ.out (ruleZ r) W3 (by rw [HFE.out,HE2.out,if_neg hz]) HB3.out)
    have g1:(ruleZ r != 0)=true:=by rw [bne_iff_ne];exact hz
    have g2:(ruleZ r == 0)=false:=by rw [beq_eq_false_iff_ne];exact hz
    clear hz
    generalize ruleZ r=z at *
    go_wp2_with fail
    exact HX.out
  ·obtain rfl:k=rs.length:=by omega
   have HX:=Hd (HQ.out 0 wr (by rw [HFE.out,HE.out,List.drop_length];rfl) HB.out)
   have hkl:¬ (rs.length:Int)<rs.length:=by omega
   go_wp2_with fail
   exact HX.out
end Go.Proofs.YtfalelkfhandfaaGreatDoor
namespace Go.Proofs.YtfalelkfhandfaaGreatDoor
set_option linter.all false

section
variable {l:List Prt}
theorem zJc {a:Nat} {P:List Mk} (h:Free l a P):Free l 0 P:=by
 cases P with
 | nil=>trivial
 | cons q R=>exact ⟨Nat.zero_le _,h.2.1,h.2.2⟩
theorem zBt:∀ {P:List Mk} {a:Nat} (_:Free l a P) {k:Nat} (hk:k<P.length),(P[k]).1<l.length∧Free l (zC l (P[k]).1) (P.drop (k+1))
 | (x,m,d)::R,a,h,0,_=>⟨h.2.1,h.2.2⟩
 | (x,m,d)::R,a,h,k+1,hk=>by
  have:=zBt h.2.2 (k:=k) (by simpa using hk)
  exact this
theorem zMs {us:List Nat} (hl:zG l=some us) {e:Nat} (he:e≤l.length) {P:List Mk} (hf:Free l e P) (hup:∀ x m d,(x,m,d)∈P→0<x→0≤upN l x) :
  (∃ R,backZ l P=stays l P 0 e++R)∧((backZ l P).length:Int)=(l.length:Int)+laterS l P∧(e:Int)≤(l.length:Int)+laterS l P:=by
 have hb:=zCx l hl P (l.length+1) (zJc hf) (by omega) hup
 have hlen:=fV l P hl P (l.length+1) 0 (zJc hf) (by omega) (Nat.zero_le _)
 have hle:=fV l P hl P (l.length+1) e hf (by omega) he
 rw [jV] at hlen hle
 refine ⟨?_,by rw [hb,hlen];simp,by omega⟩
 cases P with
 | nil =>
  refine ⟨stays l [] e l.length,?_⟩
  rw [backZ,← fU l [] (Nat.zero_le e) he]
 | cons q R =>
  obtain ⟨y,m,d⟩:=q
  obtain ⟨k1,k2,k3⟩:=hf
  obtain ⟨n',_,e2⟩:=kR l ((y,m,d)::R) hl (l.length+1) 0 y m d R (Nat.zero_le _) k2 (by omega)
  refine ⟨stays l ((y,m,d)::R) e y++(m++outGo l ((y,m,d)::R) n' (zC l y) R),?_⟩
  rw [hb,e2,fU l _ (Nat.zero_le e) k1,List.append_assoc]
theorem zMt (A B:List PN) (p:PN) (d:Int):addKN (A++p::B) A.length d=A++((p.1.1,p.1.2.1+d,p.1.2.2),p.2)::B:=by
 induction A with
 | nil=>rfl
 | cons a A ih=>rw [List.cons_append,List.length_cons,addKN,ih,List.cons_append]
theorem fS:∀ (L:List PN) (k:Nat) (d:Int),(addKN L k d).length=L.length
 | [],_,_=>rfl
 | p::r,0,d=>rfl
 | p::r,k+1,d=>by rw [addKN,List.length_cons,fS r k d,List.length_cons]
theorem zJd:∀ (L:List PN) (k:Nat) (d:Int),(addKN L k d).map (·.2)=L.map (·.2)
 | [],_,_=>rfl
 | p::r,0,d=>rfl
 | p::r,k+1,d=>by rw [addKN,List.map_cons,zJd r k d,List.map_cons]
theorem zVb (l:List Prt):(backZ l []).map (·.1)=l∧(backZ l []).map (·.2)=(List.range l.length).map fun (i:Nat)=>(i:Int):=by
 rw [backZ]
 unfold stays
 rw [List.map_map,List.map_map,Nat.sub_zero]
 constructor
 ·apply List.ext_getElem (by simp)
  intro i h1 h2
  simp [stayN,yO,zR,List.getD_eq_getElem?_getD,h2]
 ·apply List.ext_getElem (by simp)
  intro i h1 h2
  simp [stayN]
theorem zSm {us:List Nat} (hl:zG l=some us) {x:Nat} (m:List PN) (d:Int) {P:List Mk} (hx:x<l.length) (hf:Free l (zC l x) P) (hup:∀ y m d,(y,m,d)∈P→0<y→0≤upN l y) :
  backZ l ((x,m,d)::P)=(if 0<x then addKN (backZ l P) (upN l x).toNat d else backZ l P).take x++(m++(if 0<x then addKN (backZ l P) (upN l x).toNat d else backZ l P).drop (zC l x)):=by
 have hg:=zN hl hx
 obtain ⟨_,h2,h3⟩:=zMs hl hg.2 hf hup
 rw [backZ]
 have e:((if 0<x then addKN (backZ l P) (upN l x).toNat d else backZ l P).length:Int)=(backZ l P).length:=by
  split
  ·rw [fS]
  ·rfl
 show (if 0<x then addKN (backZ l P) (upN l x).toNat d else backZ l P).take x++(m++(if 0<x then addKN (backZ l P) (upN l x).toNat d else backZ l P).drop (((if 0<x then addKN (backZ l P) (upN l x).toNat d else backZ l P).length:Int)-laterZ l P (zC l x)).toNat)=_
 rw [e,h2,jV,show ((l.length:Int)+laterS l P-((l.length:Int)-(zC l x:Int)+laterS l P)).toNat=zC l x by omega]
end
end Go.Proofs.YtfalelkfhandfaaGreatDoor
namespace Go.Proofs.YtfalelkfhandfaaGreatDoor
set_option linter.all false
open Go.RowKit

@[irreducible] def fillPost (r:RuleM) (l:List Prt) (bs:List Bnd) (w0:World) (e:Ending) (w':World):Prop :=
 Below w0.heap.size w0 w'∧∃ ov nv,e=.returned (.tuple #[ov,nv,.int .i64 (fillZ r l bs).2])∧zD w' ov ((fillZ r l bs).1.map (·.1))∧zI w' nv .i64 ((fillZ r l bs).1.map (·.2))
theorem fillPost.no {r:RuleM} {l:List Prt} {bs:List Bnd} {w0 w':World} {z:Int} (h:fillZ r l bs=([],z)) (hb:Below w0.heap.size w0 w'):fillPost r l bs w0 (.returned (.tuple #[.slice none 0 0,.slice none 0 0,.int .i64 z])) w':=by
 unfold fillPost
 rw [h]
 exact ⟨hb,_,_,rfl,Row.of_owns (World.ownsRow_nil _ 0 38 3),Row.of_owns (World.ownsRow_nil _ 0 3 1)⟩
theorem zQa {r:RuleM} (h:ruleZ r=0):∀ x∈r.holes,1≤x.2∧x.2≤7:=by
 intro x hx
 obtain ⟨i,hi,rfl⟩:=List.mem_iff_getElem.1 hx
 exact (jU hi ((zAe h).2.2.2.2.2.2.2 i hi)).2.2.1
end Go.Proofs.YtfalelkfhandfaaGreatDoor
