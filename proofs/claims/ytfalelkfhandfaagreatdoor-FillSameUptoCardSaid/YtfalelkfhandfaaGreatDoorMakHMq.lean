/- Layer 20: the maker's hole, walked (printed by tools/genmakh.py). -/
import Derived.Test.YtfalelkfhandfaaGreatDoorPackMq
import Derived.Test.YtfalelkfhandfaaGreatDoorMakWMq
import Derived.Test.YtfalelkfhandfaaGreatDoorRightWMq
import Derived.Test.YtfalelkfhandfaaGreatDoorMakPMq
import Derived.Test.YtfalelkfhandfaaGreatDoorRuleAMq
namespace Go.Proofs.YtfalelkfhandfaaGreatDoor
set_option maxRecDepth 100000
set_option maxHeartbeats 32000000
set_option linter.all false
attribute [local irreducible] Calls
attribute [local irreducible] wpStill
open Go.RowKit

theorem zAx {P:Program} {fn:Func} {p t1:Tmp} {ty:TypeId} (h:fn.results=#[.cell p ty,.tmp t1]) (tmps:Array Value) (w:World) (g:Nat) (t:TypeId) (cs:Array Value) (fr:Nat×Nat) (d:TypeDesc)
  (hp:tmps.getD p undef=.pointer (some ⟨g,0,none⟩)) (hg:w.heap[g]?=some (.cells cs t fr))
  (hu:P.underlying ty=some d) (hd:(match d with | .struct _ | .array _ _=>true | _=>false)=true) (hi:(P.info? ty).map (·.size)=some cs.size) :
  (results fn tmps).run P w=.ok (.tuple #[.agg cs,tmps.getD t1 undef]) w:=by
 have hp':tmps[p]?.getD undef=.pointer (some ⟨g,0,none⟩):=by simpa using hp
 simp [results,h,hp',asAddr,run_loadVar_row w g t ty cs fr d hg hu hd hi]
structure MkF (w0:World) (E:MkE):Prop where
 H:HoleRow w0 E.vh E.r.holes
 Y:zG w0 E.vy E.r.by'
 L:zG w0 E.vl E.l
 N:zK w0 E.ve .i64 (endsL E.l)
 K:BindRow w0 E.vb E.bs
 sr:SmallR E.r
 sl:SmallL E.l
 rz:ruleZ E.r=0
 wl:zZ E.l=true
 rt:rightB E.r E.l E.bs=true
theorem MkF.bl {w0:World} {E:MkE} (F:MkF w0 E):E.bs.length=E.r.holes.length:=(vD.1 F.rt).1
def bindA (b:Bnd):Value:=.agg #[.string b.1,.int .i64 b.2.1,.int .i64 b.2.2]
@[irreducible] def mkHolePost (E:MkE) (p:Nat) (W:World) (e:Ending) (w':World):Prop :=
 Below W.heap.size W w'∧match zM E.r.by' E.r.holes p with
 | some h=>∃ hh:h<E.bs.length,e=.returned (.tuple #[bindA E.bs[h],.bool true])
 | none=>e=.returned (.tuple #[bindA (⟨#[]⟩,0,0),.bool false])
def mhOK (E:MkE) (p:Nat) (x:Bool) (b:Bnd):Prop:=(x=true→∃ h,zM E.r.by' E.r.holes p=some h∧∃ hh:h<E.bs.length,b=E.bs[h])∧(x=false→zM E.r.by' E.r.holes p=none∧b=(⟨#[]⟩,0,0))
def mhRel (E:MkE) (p:Nat) (W1:World) (xv nv:Value) (wr:World):Prop:=∃ k:Nat,nv=.int .i64 (k:Int)∧xv=.bool false∧k≤E.r.holes.length∧(∀ j (hj:j<E.r.holes.length),j<k→yC E.r.by' p E.r.holes[j]=false)∧Below W1.heap.size W1 wr
theorem BdK.fz {W:World} {g:Nat} {b:Bnd} (h:BdK W g b):W.frozen? ⟨g,0,none⟩=false∧W.frozen? ⟨g,1,none⟩=false∧W.frozen? ⟨g,2,none⟩=false∧∀ j,W.frozen? ⟨g,j,none⟩=false:=by
 unfold BdK at h
 simp [World.frozen?,h]
theorem BdK.set3 {W:World} {g:Nat} {b:Bnd} (h:BdK W g b) (q:Bnd):BdK (((W.setCell ⟨g,0,none⟩ (.string q.1)).setCell ⟨g,1,none⟩ (.int .i64 q.2.1)).setCell ⟨g,2,none⟩ (.int .i64 q.2.2)) g q:=by
 unfold BdK at *
 have h1:=heap_setCell_same W g 0 _ _ (.string q.1) h
 have h2:=heap_setCell_same _ g 1 _ _ (.int .i64 q.2.1) h1
 have h3:=heap_setCell_same _ g 2 _ _ (.int .i64 q.2.2) h2
 exact h3
theorem zOg (w0:World) (E:MkE) (F:MkF w0 E) (out:List PN) (lg:Bool) (ov fv:Value) (W:World) (hi:MkIn w0 E out lg ov fv W) (p:Nat) (hp:p<E.r.by'.length) :
  Calls Tryz.prog 40 #[.pointer (some ⟨E.g,0,none⟩),.int .i64 (p:Int)] W (mkHolePost E p W):=by
 have HQ:Hid (∀ w' (b:Bnd) (x:Bool),(x=true→∃ h,zM E.r.by' E.r.holes p=some h∧∃ hh:h<E.bs.length,b=E.bs[h])→(x=false→zM E.r.by' E.r.holes p=none∧b=(⟨#[]⟩,0,0))→Below W.heap.size W w'→mkHolePost E p W (.returned (.tuple #[bindA b,.bool x])) w'):=Hd fun w' b x h1 h2 hb=>by
  unfold mkHolePost
  refine ⟨hb,?_⟩
  cases x with
  | true =>
   obtain ⟨h,e,hh,rfl⟩:=h1 rfl
   rw [e];exact ⟨hh,rfl⟩
  | false =>
   obtain ⟨e,rfl⟩:=h2 rfl
   rw [e]
 generalize mkHolePost E p W=Q at *
 have HF:Hid (∀ (tm:Array Value) W' (b:Bnd) (x:Bool),mhOK E p x b→Below W.heap.size W W'→BdK W' W.heap.size b→tm.getD 4 undef=.pointer (some ⟨W.heap.size,0,none⟩)→tm.getD 5 undef=.bool x→bodyPost Tryz.prog Tryz.f40 Q .ret ⟨tm,[]⟩ W') :=
  Hd fun tm W' b x h1 h2 h3 h4 h5=>by
   refine bodyPost_ret (zAx rfl tm W' W.heap.size 52 #[.string b.1,.int .i64 b.2.1,.int .i64 b.2.2] (0,0) _ h4 h3 Tryz.underlying52 rfl (by kernel_rfl)) rfl ?_
   rw [h5]
   exact HQ.out W' b x h1.1 h1.2 h2
 have hyl:=F.sr.b.1
 have hhl:=F.sr.h.1
 have hbl:=F.bl
 obtain ⟨ah,ch,hvh,hch⟩:=Row.shape F.H
 obtain ⟨ay,cy,hvy,hcy⟩:=F.Y.slice
 obtain ⟨ab,cb,hvb,hcb⟩:=Row.shape F.K
 have HWW:=Hd hi.b
 have HKH:Hid (HoleRow w0 (.slice ah E.r.holes.length ch) E.r.holes):=Hd (hvh ▸ F.H)
 have HKB:Hid (BindRow w0 (.slice ab E.bs.length cb) E.bs):=Hd (hvb ▸ F.K)
 have HKY:Hid (zG w0 (.slice ay E.r.by'.length cy) E.r.by'):=Hd (hvy ▸ F.Y)
 obtain ⟨yb,yo,rfl,y1,y2,y3,y4⟩:=HKY.out.at (Below.refl _ _) (show 0<E.r.by'.length by omega)
 clear y1 y2 y3 y4
 have HCE:Hid (∀ W',Below W.heap.size W W'→W'.cell? ⟨E.g,2,none⟩=some (.slice ah E.r.holes.length ch)∧W'.cell? ⟨E.g,4,none⟩=some (.slice (some ⟨yb,yo,none⟩) E.r.by'.length cy)∧W'.cell? ⟨E.g,7,none⟩=some (.slice ab E.bs.length cb)∧∀ i (hl:i<E.r.by'.length),W'.cell? ⟨yb,yo+i*3,none⟩=some (.int .u8 ((E.r.by'[i]).1:Int))∧W'.cell? ⟨yb,yo+i*3+1,none⟩=some (.int .i64 (E.r.by'[i]).2.1)∧W'.cell? ⟨yb,yo+i*3+2,none⟩=some (.string (E.r.by'[i]).2.2)):=Hd fun W' hb=>by
  obtain ⟨c0,c1,c2,c3,c4,c5,c6,c7,_⟩:=(hi.below hb).s.cells
  refine ⟨by rw [c2,hvh],by rw [c4,hvy],by rw [c7,hvb],?_⟩
  obtain ⟨b2,o2,e',_,_,_,hcc⟩:=HKY.out.at (zB HWW.out hb) (show 0<E.r.by'.length by omega)
  simp only [Option.some.injEq,Addr.mk.injEq,and_true] at e'
  obtain ⟨rfl,rfl⟩:=e'
  exact hcc
 clear hvh hvy hvb hi F
 have HZB:Hid (BdK (W.alloc (.cells #[.string ⟨#[]⟩,.int .i64 0,.int .i64 0] 52)) W.heap.size (⟨#[]⟩,0,0)):=Hd (heap_alloc_new _ _)
 have HW1:Hid (Below W.heap.size W (W.alloc (.cells #[.string ⟨#[]⟩,.int .i64 0,.int .i64 0] 52))):=Hd ((Below.refl _ _).alloc (Nat.le_refl _) _)
 go_enter Tryz.func40,Tryz.ntmps40
 go_upto_region 1 with (fail)
 generalize W.alloc (.cells #[.string ⟨#[]⟩,.int .i64 0,.int .i64 0] 52)=W1 at *
 obtain ⟨c2,c4,c7,hyc⟩:=HCE.out W1 HW1.out
 clear hyc
 go_wp2_with fail
 clear c2 c4 c7
 go_loopw [5,16] (fun xv nv wr=>mhRel E p W1 xv nv wr) (fun _ nv _=>E.r.holes.length-(intOf nv).toNat)
 case atStart=>exact ⟨0,rfl,rfl,Nat.zero_le _,fun j hj h=>absurd h (Nat.not_lt_zero _),Below.refl _ _⟩
 case round =>
  obtain ⟨k,rfl,rfl,hk,hno,hb⟩:=hrel
  have HB:=Hd hb
  have HNO:=Hd hno
  clear hb hno
  by_cases hlt:k<E.r.holes.length
  case neg =>
   obtain rfl:k=E.r.holes.length:=by omega
   have HN:Hid (zM E.r.by' E.r.holes p=none):=Hd (by
    unfold zM
    rw [List.findIdx?_eq_none_iff]
    intro x hx
    obtain ⟨j,hj,rfl⟩:=List.mem_iff_getElem.1 hx
    exact HNO.out j hj hj)
   have HR5:Hid (BdK wr W.heap.size (⟨#[]⟩,0,0)):=Hd (HZB.out.keep HB.out)
   obtain ⟨r0,r1,r2,rz⟩:=HR5.out.fz
   obtain ⟨s0,s1,s2⟩:=HR5.out.cells
   simp only [] at s0 s1 s2
   have HF5:=Hd (HR5.out.set3 (⟨#[]⟩,0,0))
   have HBF:=Hd (((((zB HW1.out HB.out).setCell (p:=⟨W.heap.size,0,none⟩) (Nat.le_refl _) (.string ⟨#[]⟩)).setCell (p:=⟨W.heap.size,1,none⟩) (Nat.le_refl _) (.int .i64 0))).setCell (p:=⟨W.heap.size,2,none⟩) (Nat.le_refl _) (.int .i64 0))
   go_wp2_with fail
   refine HF.out _ _ (⟨#[]⟩,0,0) false ⟨fun h=>(by cases h),fun _=>⟨HN.out,rfl⟩⟩ HBF.out HF5.out ?_ ?_
   ·rfl
   ·rfl
  have hkb:k<E.bs.length:=by omega
  have HX:Hid (yC E.r.by' p E.r.holes[k]=false→∀ W',Below W1.heap.size W1 W'→mhRel E p W1 (.bool false) (.int .i64 ((k:Int)+1)) W'):=Hd fun h W' hb=>⟨k+1,by push_cast;rfl,rfl,hlt,fun j hj hjk=>by
   by_cases e:j=k
   ·subst e;exact h
   ·exact HNO.out j hj (by omega),hb⟩
  have HY:Hid (yC E.r.by' p E.r.holes[k]=true→mhOK E p true E.bs[k]):=Hd fun h=>⟨fun _=>⟨k,by
   unfold zM
   rw [List.findIdx?_eq_some_iff_getElem.2 ⟨hlt,h,fun j hj=>by rw [HNO.out j (by omega) hj];decide⟩],hkb,rfl⟩,fun h=>by cases h⟩
  obtain ⟨hb1,ho1,rfl,y1,y2,y3,hkc⟩:=HKH.out.at (zB HWW.out (zB HW1.out HB.out)) (show 0<E.r.holes.length by omega)
  clear y1 y2 y3
  obtain ⟨d0,d1⟩:=hkc k hlt
  clear hkc
  generalize hxx:E.r.holes[k]=x at *
  clear hxx
  obtain ⟨xs,xk⟩:=x
  simp only [] at d0 d1
  have hk0:(0:Int)≤(k:Int):=by omega
  have hkl:(k:Int)<E.r.holes.length:=by omega
  have hkc:(k:Int)<ch:=by omega
  have hkb0:(k:Int)<E.bs.length:=by omega
  have hkbc:(k:Int)<cb:=by omega
  have hp0:(0:Int)≤(p:Int):=by omega
  have hpl:(p:Int)<E.r.by'.length:=by omega
  have hpc:(p:Int)<cy:=by omega
  have hwp:IntKind.i64.wrap ((p:Int)+1)=(p:Int)+1:=wI (by omega)
  have HH2:Hid (HoK (wr.alloc (.cells #[.string xs,.int .u8 (xk:Int)] 49)) wr.heap.size (xs,xk)):=Hd (heap_alloc_new _ _)
  have HB2:=Hd (HB.out.alloc HB.out.size (.cells #[.string xs,.int .u8 (xk:Int)] 49))
  go_upto_region 5 with (fail)
  clear d0 d1
  generalize wr.alloc (.cells #[.string xs,.int .u8 (xk:Int)] 49)=w2 at *
  obtain ⟨k0,k1⟩:=HH2.out.cells
  simp only [] at k0 k1
  have CS:=Hd (fun W=>zMk xs xk W)
  go_wp2_with fail
  refine (CS.out _).mono ?_
  rintro e w3 ⟨rfl,hb3⟩
  have HH3:=Hd (HH2.out.keep hb3)
  have HB3:=Hd (zB HB2.out hb3)
  clear hb3 HB2 HH2 k0 k1
  obtain ⟨k0,k1⟩:=HH3.out.cells
  simp only [] at k0 k1
  cases hst:xM xk with
  | true =>
   rw [hst] at CS
   go_wp2_with fail
   refine (CS.out _).mono ?_
   rintro e w4 ⟨rfl,hb4⟩
   have HH4:=Hd (HH3.out.keep hb4)
   have HB4:=Hd (zB HB3.out hb4)
   clear hb4 HB3 HH3 k0 k1 CS
   obtain ⟨k0,k1⟩:=HH4.out.cells
   obtain ⟨c2,c4,c7,hyc⟩:=HCE.out w4 (zB HW1.out HB4.out)
   obtain ⟨n0,n1,n2⟩:=hyc p hp
   by_cases h50:(E.r.by'[p]).1=50
   case neg =>
    have hsa:yC E.r.by' p (xs,xk)=false:=by
     unfold yC
     rw [if_pos hst,List.getElem?_eq_getElem hp]
     cases E.r.by'[p+1]? with
     | none=>rfl
     | some y=>simp [h50]
    have HZ:=Hd (HX.out hsa w4 HB4.out)
    have g50:(((E.r.by'[p]).1:Int) != 50)=true:=by rw [bne_iff_ne];omega
    have g51:(((E.r.by'[p]).1:Int) == 50)=false:=by rw [beq_eq_false_iff_ne];omega
    clear hsa HX HY hyc h50
    go_wp2_with fail
    exact ⟨HZ.out,by simp only [intOf];omega⟩
   have g50:(((E.r.by'[p]).1:Int) != 50)=false:=by rw [bne_eq_false_iff_eq];omega
   have g51:(((E.r.by'[p]).1:Int) == 50)=true:=by rw [beq_iff_eq];omega
   by_cases hnx:p+1<E.r.by'.length
   case neg =>
    have hsa:yC E.r.by' p (xs,xk)=false:=by
     unfold yC
     rw [if_pos hst,List.getElem?_eq_getElem hp,List.getElem?_eq_none (by omega)]
    have HZ:=Hd (HX.out hsa w4 HB4.out)
    have g52:(E.r.by'.length:Int)≤(p:Int)+1:=by omega
    clear hsa HX HY hyc h50
    go_wp2_with fail
    exact ⟨HZ.out,by simp only [intOf];omega⟩
   have hsa:yC E.r.by' p (xs,xk)=((E.r.by'[p+1]).1 == 26&&decide ((E.r.by'[p+1]).2.2=xs)):=by
    unfold yC
    rw [if_pos hst,List.getElem?_eq_getElem hp,List.getElem?_eq_getElem hnx]
    simp [h50]
   rw [hsa] at HX HY
   have g52:¬ (E.r.by'.length:Int)≤(p:Int)+1:=by omega
   have hq0:(0:Int)≤(p:Int)+1:=by omega
   have hql:(p:Int)+1<E.r.by'.length:=by omega
   have hqc:(p:Int)+1<cy:=by omega
   clear hsa h50
   go_upto_region 8 with (fail)
   clear n0 n1 n2 g50 g51
   obtain ⟨q0,q1,q2⟩:=hyc (p+1) hnx
   clear hyc
   generalize hqq:E.r.by'[p+1]=q at *
   clear hqq
   obtain ⟨qk,qn,qw⟩:=q
   simp only [] at q0 q1 q2 HX HY
   have HP5:Hid (PK (w4.alloc (.cells #[.int .u8 (qk:Int),.int .i64 qn,.string qw] 38)) w4.heap.size (qk,qn,qw)):=Hd (PK.alloc_new w4 (qk,qn,qw))
   have HB5:=Hd (HB4.out.alloc HB4.out.size (.cells #[.int .u8 (qk:Int),.int .i64 qn,.string qw] 38))
   have HH5:Hid (HoK (w4.alloc (.cells #[.int .u8 (qk:Int),.int .i64 qn,.string qw] 38)) wr.heap.size (xs,xk)):=Hd (HH4.out.keep ((Below.refl _ _).alloc (Nat.le_refl _) _))
   go_upto_region 9 with (fail)
   clear q0 q1 q2 c2 c4 c7 k0 k1
   generalize w4.alloc (.cells #[.int .u8 (qk:Int),.int .i64 qn,.string qw] 38)=w5 at *
   have p0:=HP5.out.c0
   have p2:=HP5.out.c2
   have k0:=HH5.out.cells.1
   simp only [] at p0 p2 k0
   by_cases h26:qk=26
   case neg =>
    have HZ:=Hd (HX.out (by simp [h26]) w5 HB5.out)
    have g26:((qk:Int) == 26)=false:=by rw [beq_eq_false_iff_ne];omega
    clear HX HY h26
    go_wp2_with fail
    exact ⟨HZ.out,by simp only [intOf];omega⟩
   subst h26
   have gw:(qw.toList == xs.toList)=decide (qw=xs):=zBz
   by_cases hw:qw=xs
   case neg =>
    have HZ:=Hd (HX.out (by simp [hw]) w5 HB5.out)
    rw [decide_eq_false hw] at gw
    clear HX HY hw
    go_wp2_with fail
    exact ⟨HZ.out,by simp only [intOf];omega⟩
   rw [decide_eq_true hw] at gw
   have HZ:=Hd (HY.out (by simp [hw]))
   have HR5:Hid (BdK w5 W.heap.size (⟨#[]⟩,0,0)):=Hd (HZB.out.keep HB5.out)
   obtain ⟨c2,c4,c7,hyc2⟩:=HCE.out w5 (zB HW1.out HB5.out)
   clear hyc2
   obtain ⟨bb,bo,hvb2,y1,y2,y3,hbc⟩:=HKB.out.at (zB HWW.out (zB HW1.out HB5.out)) (show 0<E.bs.length by omega)
   clear y1 y2 y3
   obtain ⟨b0,b1,b2⟩:=hbc k hkb
   clear hbc
   subst hvb2
   have HF5:=Hd (HR5.out.set3 (E.bs[k]))
   have HBF:=Hd (((((zB HW1.out HB5.out).setCell (p:=⟨W.heap.size,0,none⟩) (Nat.le_refl _) (.string (E.bs[k]).1)).setCell (p:=⟨W.heap.size,1,none⟩) (Nat.le_refl _) (.int .i64 (E.bs[k]).2.1))).setCell (p:=⟨W.heap.size,2,none⟩) (Nat.le_refl _) (.int .i64 (E.bs[k]).2.2))
   obtain ⟨r0,r1,r2,rz⟩:=HR5.out.fz
   obtain ⟨s0,s1,s2⟩:=HR5.out.cells
   simp only [] at s0 s1 s2
   clear HX HY hw
   generalize E.bs[k]=bd at *
   obtain ⟨bn,bf,bt⟩:=bd
   simp only [] at b0 b1 b2 HF5 HBF HZ
   go_wp2_with fail
   exact HF.out _ _ (bn,bf,bt) true HZ.out HBF.out HF5.out rfl rfl
  | false =>
   rw [hst] at CS
   go_wp2_with fail
   refine (CS.out _).mono ?_
   rintro e w4 ⟨rfl,hb4⟩
   have HH4:=Hd (HH3.out.keep hb4)
   have HB4:=Hd (zB HB3.out hb4)
   clear hb4 HB3 HH3 k0 k1 CS
   obtain ⟨k0,k1⟩:=HH4.out.cells
   obtain ⟨c2,c4,c7,hyc⟩:=HCE.out w4 (zB HW1.out HB4.out)
   have hsa:yC E.r.by' p (xs,xk)=((E.r.by'[p]).1 == 26&&decide ((E.r.by'[p]).2.2=xs)):=by
    unfold yC
    rw [if_neg (by rw [hst];decide),List.getElem?_eq_getElem hp]
   rw [hsa] at HX HY
   have g52:¬ (E.r.by'.length:Int)≤(p:Int):=by omega
   clear hsa
   go_upto_region 8 with (fail)
   obtain ⟨q0,q1,q2⟩:=hyc p hp
   clear hyc
   generalize hqq:E.r.by'[p]=q at *
   clear hqq
   obtain ⟨qk,qn,qw⟩:=q
   simp only [] at q0 q1 q2 HX HY
   have HP5:Hid (PK (w4.alloc (.cells #[.int .u8 (qk:Int),.int .i64 qn,.string qw] 38)) w4.heap.size (qk,qn,qw)):=Hd (PK.alloc_new w4 (qk,qn,qw))
   have HB5:=Hd (HB4.out.alloc HB4.out.size (.cells #[.int .u8 (qk:Int),.int .i64 qn,.string qw] 38))
   have HH5:Hid (HoK (w4.alloc (.cells #[.int .u8 (qk:Int),.int .i64 qn,.string qw] 38)) wr.heap.size (xs,xk)):=Hd (HH4.out.keep ((Below.refl _ _).alloc (Nat.le_refl _) _))
   go_upto_region 9 with (fail)
   clear q0 q1 q2 c2 c4 c7 k0 k1
   generalize w4.alloc (.cells #[.int .u8 (qk:Int),.int .i64 qn,.string qw] 38)=w5 at *
   have p0:=HP5.out.c0
   have p2:=HP5.out.c2
   have k0:=HH5.out.cells.1
   simp only [] at p0 p2 k0
   by_cases h26:qk=26
   case neg =>
    have HZ:=Hd (HX.out (by simp [h26]) w5 HB5.out)
    have g26:((qk:Int) == 26)=false:=by rw [beq_eq_false_iff_ne];omega
    clear HX HY h26
    go_wp2_with fail
    exact ⟨HZ.out,by simp only [intOf];omega⟩
   subst h26
   have gw:(qw.toList == xs.toList)=decide (qw=xs):=zBz
   by_cases hw:qw=xs
   case neg =>
    have HZ:=Hd (HX.out (by simp [hw]) w5 HB5.out)
    rw [decide_eq_false hw] at gw
    clear HX HY hw
    go_wp2_with fail
    exact ⟨HZ.out,by simp only [intOf];omega⟩
   rw [decide_eq_true hw] at gw
   have HZ:=Hd (HY.out (by simp [hw]))
   have HR5:Hid (BdK w5 W.heap.size (⟨#[]⟩,0,0)):=Hd (HZB.out.keep HB5.out)
   obtain ⟨c2,c4,c7,hyc2⟩:=HCE.out w5 (zB HW1.out HB5.out)
   clear hyc2
   obtain ⟨bb,bo,hvb2,y1,y2,y3,hbc⟩:=HKB.out.at (zB HWW.out (zB HW1.out HB5.out)) (show 0<E.bs.length by omega)
   clear y1 y2 y3
   obtain ⟨b0,b1,b2⟩:=hbc k hkb
   clear hbc
   subst hvb2
   have HF5:=Hd (HR5.out.set3 (E.bs[k]))
   have HBF:=Hd (((((zB HW1.out HB5.out).setCell (p:=⟨W.heap.size,0,none⟩) (Nat.le_refl _) (.string (E.bs[k]).1)).setCell (p:=⟨W.heap.size,1,none⟩) (Nat.le_refl _) (.int .i64 (E.bs[k]).2.1))).setCell (p:=⟨W.heap.size,2,none⟩) (Nat.le_refl _) (.int .i64 (E.bs[k]).2.2))
   obtain ⟨r0,r1,r2,rz⟩:=HR5.out.fz
   obtain ⟨s0,s1,s2⟩:=HR5.out.cells
   simp only [] at s0 s1 s2
   clear HX HY hw
   generalize E.bs[k]=bd at *
   obtain ⟨bn,bf,bt⟩:=bd
   simp only [] at b0 b1 b2 HF5 HBF HZ
   go_wp2_with fail
   exact HF.out _ _ (bn,bf,bt) true HZ.out HBF.out HF5.out rfl rfl
end Go.Proofs.YtfalelkfhandfaaGreatDoor
namespace Go.Proofs.YtfalelkfhandfaaGreatDoor
set_option maxRecDepth 100000
set_option maxHeartbeats 32000000
set_option linter.all false
attribute [local irreducible] Calls
attribute [local irreducible] wpStill
open Go.RowKit

theorem Row.same2 {w w':World} {v:Value} {n sz:Nat} {cs:List Value} (h:Row w v n sz cs) (hk:∀ b,v.ownBlock=some b→b<w.heap.size→b<w'.heap.size∧w'.heap[b]?=w.heap[b]?):Row w' v n sz cs:=by
 obtain ⟨h1,a,cap,hv,hc,hz,h2⟩:=h
 refine ⟨h1,a,cap,hv,hc,hz,fun hn=>?_⟩
 obtain ⟨b,off,ha,hlt,hcell⟩:=h2 hn
 subst ha
 obtain ⟨k1,k2⟩:=hk b (by rw [hv];rfl) hlt
 refine ⟨b,off,rfl,k1,fun i hi=>?_⟩
 rw [← hcell i hi]
 simp only [World.cell?,k2]
structure WkS (E:MkE) (gm gy gw:Nat) (vy:Value) (W:World):Prop where
 m:W.heap[gm]?=some (.cells #[.pointer (some ⟨E.g,0,none⟩)] 58 (0,0))
 y:W.heap[gy]?=some (.cells #[vy] 27 (0,0))
 w:W.heap[gw]?=some (.cells #[.func (.func 39) #[] #[.pointer (some ⟨gm,0,none⟩),.pointer (some ⟨gy,0,none⟩),.pointer (some ⟨gw,0,none⟩)]] 79 (0,0))
 r:zK W vy .i64 (endsL E.r.by')
 lt:gm<E.B∧gy<E.B∧gw<E.B∧gm≠E.g∧gy≠E.g∧gw≠E.g
 rb:∀ b,vy.ownBlock=some b→b<E.B∧b≠E.g
theorem WkS.below {E:MkE} {gm gy gw:Nat} {vy:Value} {W W':World} (h:WkS E gm gy gw vy W) (hb:Below W.heap.size W W'):WkS E gm gy gw vy W' :=
 ⟨keeps hb h.m,keeps hb h.y,keeps hb h.w,h.r.below hb,h.lt,h.rb⟩
theorem WkS.kc {w0:World} {E:MkE} {gm gy gw:Nat} {vy ov fv ov' fv':Value} {out:List PN} {lg:Bool} {W W':World} (h:WkS E gm gy gw vy W) (hi:MkIn w0 E out lg ov fv W) (k:KpC E.g ov fv ov' fv' W W'):WkS E gm gy gw vy W':=by
 have key:∀ b,b<E.B→b≠E.g→W'.heap[b]?=W.heap[b]?:=fun b h1 h2=>k.low b (by have:=hi.B;omega) h2 (fun e=>by have:=(hi.o.lt b e).1;omega) (fun e=>by have:=(hi.f.lt b e).1;omega)
 obtain ⟨l1,l2,l3,l4,l5,l6⟩:=h.lt
 refine ⟨by rw [key gm l1 l4];exact h.m,by rw [key gy l2 l5];exact h.y,by rw [key gw l3 l6];exact h.w,Row.same2 h.r fun b e hlt=>⟨Nat.lt_of_lt_of_le hlt k.size,key b (h.rb b e).1 (h.rb b e).2⟩,h.lt,h.rb⟩
theorem WkS.cells {E:MkE} {gm gy gw:Nat} {vy:Value} {W:World} (h:WkS E gm gy gw vy W):W.cell? ⟨gm,0,none⟩=some (.pointer (some ⟨E.g,0,none⟩))∧W.cell? ⟨gy,0,none⟩=some vy∧W.cell? ⟨gw,0,none⟩=some (.func (.func 39) #[] #[.pointer (some ⟨gm,0,none⟩),.pointer (some ⟨gy,0,none⟩),.pointer (some ⟨gw,0,none⟩)]):=by
 simp [World.cell?,h.m,h.y,h.w]
abbrev mkM (E:MkE) (n p:Nat):List PN:=mPart E.r.by' E.l E.r.holes (bOf E.bs) n p
def WalkC (w0:World) (E:MkE) (gm gy gw:Nat) (vy:Value) (n:Nat):Prop:=∀ (W:World) (out:List PN) (lg:Bool) (ov fv:Value) (p:Nat),MkIn w0 E out lg ov fv W→WkS E gm gy gw vy W→out.length≤131073→p<E.r.by'.length→2*(zA E.r.by' p-p)≤n→(mkM E n p).length≤2000000000000 →
 Calls Tryz.prog 39 #[.int .i64 (p:Int),.pointer (some ⟨gm,0,none⟩),.pointer (some ⟨gy,0,none⟩),.pointer (some ⟨gw,0,none⟩)] W (mkPost w0 E out lg ov fv (mkM E n p) W fun u=>u=.int .i64 (cntP ((mkM E n p).map (·.1)):Int))
def whRel (w0:World) (E:MkE) (f t:Nat) (out:List PN) (lg:Bool) (ov fv:Value) (W2:World) (iv:Value) (wr:World):Prop :=
 ∃ (i:Nat) (out':List PN) (lg':Bool) (ov' fv':Value),iv=.int .i64 (i:Int)∧f≤i∧i≤t∧mkGo out lg (srcL E.l f i) out' lg'∧out'.length≤131073∧MkIn w0 E out' lg' ov' fv' wr∧KpC E.g ov fv ov' fv' W2 wr
theorem mkPost.out {w0:World} {E:MkE} {out:List PN} {lg:Bool} {ov fv:Value} {M:List PN} {W:World} {v:Value→Prop} {e:Ending} {w':World} (h:mkPost w0 E out lg ov fv M W v e w'):∃ out' lg' ov' fv' u,e=.returned u∧v u∧mkGo out lg M out' lg'∧out'.length≤131073∧MkIn w0 E out' lg' ov' fv' w'∧KpC E.g ov fv ov' fv' W w':=by
 unfold mkPost at h;exact h
theorem zVh (w0:World) (E:MkE) (F:MkF w0 E) (gm gy gw:Nat) (vy:Value) (n:Nat) (W:World) (out:List PN) (lg:Bool) (ov fv:Value) (p:Nat) (hi:MkIn w0 E out lg ov fv W) (hw:WkS E gm gy gw vy W) (hn:out.length≤131073) (hp:p<E.r.by'.length) (h:Nat) (ho:zM E.r.by' E.r.holes p=some h) :
  Calls Tryz.prog 39 #[.int .i64 (p:Int),.pointer (some ⟨gm,0,none⟩),.pointer (some ⟨gy,0,none⟩),.pointer (some ⟨gw,0,none⟩)] W (mkPost w0 E out lg ov fv (mkM E (n+1) p) W fun u=>u=.int .i64 (cntP ((mkM E (n+1) p).map (·.1)):Int)):=by
 have hrow:=kY F.rt h
 have hin:=gC (jK F.rt) h
 rw [show mkM E (n+1) p=srcL E.l (bOf E.bs h).1 (bOf E.bs h).2 from zOe ho,zAv E.l hin.1 hin.2]
 have hhl:h<E.r.holes.length:=(vC ho).1
 have hhb:h<E.bs.length:=by rw [F.bl];exact hhl
 obtain ⟨f,t,hf,ht,hft,htl⟩:∃ f t:Nat,(E.bs[h]).2.1=(f:Int)∧(E.bs[h]).2.2=(t:Int)∧f≤t∧t≤E.l.length:=by
  have:=jK F.rt _ (List.getElem_mem hhb)
  exact ⟨(E.bs[h]).2.1.toNat,(E.bs[h]).2.2.toNat,by omega,by omega,by omega,by omega⟩
 have hbo:bOf E.bs h=(f,t):=by rw [zEa hhb,hf,ht];rfl
 rw [hbo] at hrow ⊢
 simp only [] at hrow ⊢
 obtain ⟨ts,hts⟩:=hrow
 have hll:=F.sl.1
 have HYES:Hid (∀ w' out' lg' ov' fv',mkGo out lg (srcL E.l f t) out' lg'→out'.length≤131073→MkIn w0 E out' lg' ov' fv' w'→KpC E.g ov fv ov' fv' W w'→mkPost w0 E out lg ov fv (srcL E.l f t) W (fun u=>u=.int .i64 (cntP (piece E.l f t):Int)) (.returned (.int .i64 (cntP (piece E.l f t):Int))) w'):=Hd fun w' out' lg' ov' fv' h1 h2 h3 h4=>by
  unfold mkPost;exact ⟨out',lg',ov',fv',_,rfl,rfl,h1,h2,h3,h4⟩
 have C1:=Hd (zOg w0 E F out lg ov fv W hi p hp)
 have CP:=Hd (fun W out lg ov fv (hi:MkIn w0 E out lg ov fv W) hn p nf=>zSp w0 E out lg ov fv W hi hn p nf)
 have CT:=Hd (fun W' (hb:Below w0.heap.size w0 W')=>zDs E.l (by omega) _ (zI F.wl) E.ve f t hft htl W' (F.N.below hb))
 have hcn:xE (piece E.l f t)=(cntP (piece E.l f t):Int):=zGr hts
 have hcl:cntP (piece E.l f t)≤E.l.length:=by
  rw [jY hts]
  have:=(yO hts).2.1
  have h2:=zBt hft htl
  omega
 obtain ⟨la,lc,hvl,hlc⟩:=F.L.slice
 have HLR:Hid (zG w0 (.slice la E.l.length lc) E.l):=Hd (hvl ▸ F.L)
 obtain ⟨ea,ec,hve,hec,_⟩:=F.N.open'
 have hcm:=hw.cells.1
 have HI:=Hd hi
 have HWK:=Hd hw
 have HCN:=Hd hcn
 generalize mkPost w0 E out lg ov fv (srcL E.l f t) W (fun u=>u=.int .i64 (cntP (piece E.l f t):Int))=Q at *
 clear hi hw hts hcn F
 go_enter Tryz.func39,Tryz.ntmps39
 go_wp2_with fail
 refine C1.out.mono ?_
 intro e w1 h1
 unfold mkHolePost at h1
 rw [ho] at h1
 obtain ⟨hb1,hh2,rfl⟩:=h1
 unfold bindA
 rw [hf,ht]
 generalize (E.bs[h]).1=bn
 have HB1:=Hd hb1
 clear hb1 C1 hcm
 have HB2:Hid (Below W.heap.size W (w1.alloc (.cells #[.string bn,.int .i64 (f:Int),.int .i64 (t:Int)] 52))):=Hd (HB1.out.alloc HB1.out.size _)
 have HD2:Hid (BdK (w1.alloc (.cells #[.string bn,.int .i64 (f:Int),.int .i64 (t:Int)] 52)) w1.heap.size (bn,(f:Int),(t:Int))):=Hd (heap_alloc_new _ _)
 have hg1:W.heap.size≤w1.heap.size:=HB1.out.size
 go_upto_region 3 with (fail)
 generalize w1.alloc (.cells #[.string bn,.int .i64 (f:Int),.int .i64 (t:Int)] 52)=W2 at *
 generalize w1.heap.size=g2 at *
 have HI2:=Hd (HI.out.below HB2.out)
 have HW2:=Hd (HWK.out.below HB2.out)
 have hgg:E.g<W.heap.size:=zD HI.out.s
 have hg2:g2<W2.heap.size:=zD HD2.out
 have HG2:Hid (g2≠E.g∧ov.ownBlock≠some g2∧fv.ownBlock≠some g2):=Hd ⟨by omega,fun e=>by have:=(HI.out.o.lt _ e).2;omega,fun e=>by have:=(HI.out.f.lt _ e).2;omega⟩
 obtain ⟨b0,b1,b2⟩:=HD2.out.cells
 simp only [] at b0 b1 b2
 go_wp2_with fail
 clear b0 b1 b2
 go_loopw [8] (fun iv wr=>whRel w0 E f t out lg ov fv W2 iv wr) (fun iv _=>t-(intOf iv).toNat)
 case atStart=>exact ⟨f,out,lg,ov,fv,rfl,Nat.le_refl _,hft,by rw [zRx E.l (Nat.le_refl f)];exact mkGo.nil out lg hn,hn,HI2.out,KpC.refl _ _ _ _⟩
 case round =>
  obtain ⟨i,out',lg',ov',fv',rfl,hfi,hit,hgo,hol,hii,hkk⟩:=hrel
  have HGO:=Hd hgo
  have HII:=Hd hii
  have HKK:=Hd hkk
  clear hgo hii hkk
  have HWW:=Hd (HW2.out.kc HI2.out HKK.out)
  have HDD:Hid (BdK wr g2 (bn,(f:Int),(t:Int))):=Hd (by
   have h:=HD2.out
   unfold BdK at *
   rw [HKK.out.low g2 hg2 HG2.out.1 HG2.out.2.1 HG2.out.2.2];exact h)
  obtain ⟨b0,b1,b2⟩:=HDD.out.cells
  simp only [] at b0 b1 b2
  obtain ⟨m0,m1,m2⟩:=HWW.out.cells
  clear m1 m2
  obtain ⟨c0,c1,c2,c3,c4,c5,c6,c7,c8,c9,c10,cz⟩:=HII.out.s.cells
  clear c0 c1 c2 c3 c4 c7 c8 c9 cz
  rw [hvl] at c5
  rw [hve] at c6
  have HFIN:Hid (mkGo out lg (srcL E.l f t) out' lg'→∀ w',Below wr.heap.size wr w'→Q (.returned (.int .i64 (cntP (piece E.l f t):Int))) w'):=Hd fun h w' hb=>HYES.out w' out' lg' ov' fv' h hol (HII.out.below hb) (((KpC.of_below HB2.out).trans HKK.out).trans (KpC.of_below hb))
  by_cases hlt:i<t∧lg'=false
  case neg =>
   have HFI:=Hd (HFIN.out (by
    by_cases e:i<t
    ·have:lg'=true:=by
      cases lg' with
      | true=>rfl
      | false=>exact absurd ⟨e,rfl⟩ hlt
     subst this
     rw [zSr E.l hfi hit]
     exact HGO.out.long
    ·obtain rfl:i=t:=by omega
     exact HGO.out))
   have HBS:Hid (∀ W',Below wr.heap.size wr W'→(W'.cell? ⟨gm,0,none⟩=some (.pointer (some ⟨E.g,0,none⟩))∧W'.cell? ⟨E.g,6,none⟩=some (.slice ea (endsL E.l).length ec)∧W'.cell? ⟨g2,1,none⟩=some (.int .i64 (f:Int))∧W'.cell? ⟨g2,2,none⟩=some (.int .i64 (t:Int)))):=Hd fun W' hb=>⟨(HWW.out.below hb).cells.1,by rw [(HII.out.below hb).s.cells.2.2.2.2.2.2.1,hve],(HDD.out.keep hb).cells.2.1,(HDD.out.keep hb).cells.2.2⟩
   have CT2:=Hd (CT.out wr.drew (zB HII.out.b (Below.refl _ _).drew))
   rw [hve] at CT2
   have hcase:lg'=true∨¬ (i:Int)<(t:Int):=by
    cases lg' with
    | true=>exact Or.inl rfl
    | false=>exact Or.inr (fun h=>hlt ⟨by omega,rfl⟩)
   clear hlt
   have hwn:=HCN.out
   have HTT:=Hd hwn
   have HRUN:Hid (∀ w',Below wr.heap.size wr w'→Q (.returned (.int .i64 (cntP (piece E.l f t):Int))) w'):=Hd HFI.out
   clear hwn HGO hit hfi
   rcases hcase with rfl | hni
   ·by_cases hlt:(i:Int)<(t:Int)
    all_goals
     go_upto_region 7 with (fail)
     clear b0 b1 b2 m0 c5 c6 c10
     go_region_held3 (fun W'=>W'.cell? ⟨gm,0,none⟩=some (.pointer (some ⟨E.g,0,none⟩))∧W'.cell? ⟨E.g,6,none⟩=some (.slice ea (endsL E.l).length ec)∧W'.cell? ⟨g2,1,none⟩=some (.int .i64 (f:Int))∧W'.cell? ⟨g2,2,none⟩=some (.int .i64 (t:Int))) (exact HBS.out _ (Below.refl _ _).drew) ((go_at_call 36;(with_reducible refine CT2.out.mono ?_);(rintro e w5 ⟨⟨k,x,hkl,rfl,h1,h2⟩,rfl⟩);(try dsimp only)))
     have hkx:k=cntP (piece E.l f t):=by
      cases x with
      | true=>have:=h1 rfl;have:=HTT.out;omega
      | false=>have:=h2 rfl;have:=HTT.out;omega
     have HX:=Hd (HRUN.out wr.drew (Below.refl _ _).drew)
     rw [← hkx] at HX
     clear hkx h1 h2
     go_wp2_with fail
     exact HX.out
   ·go_upto_region 7 with (fail)
    clear b0 b1 b2 m0 c5 c6 c10
    go_region_held3 (fun W'=>W'.cell? ⟨gm,0,none⟩=some (.pointer (some ⟨E.g,0,none⟩))∧W'.cell? ⟨E.g,6,none⟩=some (.slice ea (endsL E.l).length ec)∧W'.cell? ⟨g2,1,none⟩=some (.int .i64 (f:Int))∧W'.cell? ⟨g2,2,none⟩=some (.int .i64 (t:Int))) (exact HBS.out _ (Below.refl _ _).drew) ((go_at_call 36;(with_reducible refine CT2.out.mono ?_);(rintro e w5 ⟨⟨k,x,hkl,rfl,h1,h2⟩,rfl⟩);(try dsimp only)))
    have hkx:k=cntP (piece E.l f t):=by
     cases x with
     | true=>have:=h1 rfl;have:=HTT.out;omega
     | false=>have:=h2 rfl;have:=HTT.out;omega
    have HX:=Hd (HRUN.out wr.drew (Below.refl _ _).drew)
    rw [← hkx] at HX
    clear hkx h1 h2
    go_wp2_with fail
    exact HX.out
  obtain ⟨hlt,rfl⟩:=hlt
  have hll1:i<E.l.length:=by omega
  obtain ⟨lb,lo,rfl,y1,y2,y3,y4⟩:=HLR.out.at HII.out.b (show 0<E.l.length by omega)
  clear y1 y2 y3 y4
  have hpt:zT E.l i=E.l[i]:=by unfold zT;simp [List.getD_eq_getElem?_getD,hll1]
  have HBS:Hid (∀ W',Below wr.heap.size wr W'→(W'.cell? ⟨gm,0,none⟩=some (.pointer (some ⟨E.g,0,none⟩))∧W'.cell? ⟨E.g,5,none⟩=some (.slice (some ⟨lb,lo,none⟩) E.l.length lc)∧W'.cell? ⟨lb,lo+i*3,none⟩=some (.int .u8 ((zT E.l i).1:Int))∧W'.cell? ⟨lb,lo+i*3+1,none⟩=some (.int .i64 (zT E.l i).2.1)∧W'.cell? ⟨lb,lo+i*3+2,none⟩=some (.string (zT E.l i).2.2))):=Hd fun W' hb=>⟨(HWW.out.below hb).cells.1,by rw [(HII.out.below hb).s.cells.2.2.2.2.2.1,hvl],by
   obtain ⟨b2,o2,e',_,_,_,hcc⟩:=HLR.out.at (zB HII.out.b hb) (show 0<E.l.length by omega)
   simp only [Option.some.injEq,Addr.mk.injEq,and_true] at e'
   obtain ⟨rfl,rfl⟩:=e'
   rw [hpt]
   exact hcc i hll1⟩
  have HBF:Hid (∀ W' o2 l2 v2 f2,MkIn w0 E o2 l2 v2 f2 W'→KpC E.g ov' fv' v2 f2 wr.drew W'→(W'.cell? ⟨gm,0,none⟩=some (.pointer (some ⟨E.g,0,none⟩))∧W'.cell? ⟨E.g,5,none⟩=some (.slice (some ⟨lb,lo,none⟩) E.l.length lc)∧W'.cell? ⟨lb,lo+i*3,none⟩=some (.int .u8 ((zT E.l i).1:Int))∧W'.cell? ⟨lb,lo+i*3+1,none⟩=some (.int .i64 (zT E.l i).2.1)∧W'.cell? ⟨lb,lo+i*3+2,none⟩=some (.string (zT E.l i).2.2))):=Hd fun W' o2 l2 v2 f2 h3 h4=>⟨((HWW.out.below (Below.refl _ _).drew).kc (HII.out.below (Below.refl _ _).drew) h4).cells.1,by rw [h3.s.cells.2.2.2.2.2.1,hvl],by
   obtain ⟨b2,o2,e',_,_,_,hcc⟩:=HLR.out.at h3.b (show 0<E.l.length by omega)
   simp only [Option.some.injEq,Addr.mk.injEq,and_true] at e'
   obtain ⟨rfl,rfl⟩:=e'
   rw [hpt]
   exact hcc i hll1⟩
  have CP2:=Hd (CP.out wr.drew out' false ov' fv' (HII.out.below (Below.refl _ _).drew) hol (zT E.l i) (i:Int))
  have HX0:Hid (∀ w6 o2 l2 v2 f2,mkGo out' false [(zT E.l i,(i:Int))] o2 l2→o2.length≤131073→MkIn w0 E o2 l2 v2 f2 w6→KpC E.g ov' fv' v2 f2 wr.drew w6→whRel w0 E f t out lg ov fv W2 (.int .i64 ((i:Int)+1)) w6):=Hd fun w6 o2 l2 v2 f2 h1 h2 h3 h4=>⟨i+1,o2,l2,v2,f2,by push_cast;rfl,by omega,hlt,by rw [zPo E.l hfi];exact HGO.out.app h1,h2,h3,(HKK.out.trans (KpC.of_below (Below.refl _ _).drew)).trans h4⟩
  have hi0:(0:Int)≤(i:Int):=by omega
  have hil:(i:Int)<E.l.length:=by omega
  have hic:(i:Int)<lc:=by omega
  have hiti:(i:Int)<(t:Int):=by omega
  unfold partA at CP2
  clear hpt HFIN CP CT HCN HGO hve hcl HKK
  generalize zT E.l i=pp at *
  obtain ⟨pk,pn,pw⟩:=pp
  simp only [] at HBS CP2 HBF
  go_upto_region 6 with (fail)
  clear b0 b1 b2 m0 c5 c6 c10
  go_region_held3 (fun W'=>W'.cell? ⟨gm,0,none⟩=some (.pointer (some ⟨E.g,0,none⟩))∧W'.cell? ⟨E.g,5,none⟩=some (.slice (some ⟨lb,lo,none⟩) E.l.length lc)∧W'.cell? ⟨lb,lo+i*3,none⟩=some (.int .u8 (pk:Int))∧W'.cell? ⟨lb,lo+i*3+1,none⟩=some (.int .i64 pn)∧W'.cell? ⟨lb,lo+i*3+2,none⟩=some (.string pw)) (first | exact HBS.out _ (Below.refl _ _).drew | exact HB6.out) ((go_at_call 41;(with_reducible refine CP2.out.mono ?_);(intro e w6 h6;obtain ⟨o2,l2,v2,f2,u,rfl,_,hgo2,hol2,hi2,hk2⟩:=h6.out;have HB6:=Hd (HBF.out w6 o2 l2 v2 f2 hi2 hk2));(try dsimp only)))
  have HX:=Hd (HX0.out w6 o2 l2 v2 f2 hgo2 hol2 hi2 hk2)
  clear hgo2 hi2 hk2 h6
  go_wp2_with fail
  exact ⟨HX.out,by simp only [intOf];omega⟩
end Go.Proofs.YtfalelkfhandfaaGreatDoor
namespace Go.Proofs.YtfalelkfhandfaaGreatDoor
set_option maxRecDepth 100000
set_option maxHeartbeats 32000000
set_option linter.all false
attribute [local irreducible] Calls
attribute [local irreducible] wpStill
open Go.RowKit

theorem KpC.setO {g:Nat} {ov nv ov' nv':Value} {W W':World} (h:KpC g ov nv ov' nv' W W') {b:Nat} (hb:ov'.ownBlock=some b) (j:Nat) (u:Value):KpC g ov nv ov' nv' W (W'.setCell ⟨b,j,none⟩ u) :=
 ⟨h.os,h.tape,h.output,by have:=h.size;simpa using this,fun k h1 h2 h3 h4=>by
  rw [heap_setCell_other _ _ _ _ (show k≠b from fun e=>by
   subst e
   rcases h.no k hb with e | e
   ·exact h3 e
   ·omega)]
  exact h.low k h1 h2 h3 h4,h.no,h.nn⟩
theorem zKg (A B:List Prt) (k:Nat) (n m:Int) (s:ByteArray):(zU (A++(k,n,s)::B)).set (A.length*3+1) (.int .i64 m)=zU (A++(k,m,s)::B):=by
 rw [yF,yF,List.set_append_right _ _ (by rw [yE];omega),yE,show A.length*3+1-A.length*3=1 by omega]
 rfl
theorem zIb (A B:List Prt) (k:Nat) (n:Int) (s:ByteArray):(zU (A++(k,n,s)::B))[A.length*3+1]?=some (.int .i64 n):=by
 rw [yF,List.getElem?_append_right (by rw [yE];omega),yE,show A.length*3+1-A.length*3=1 by omega]
 rfl
theorem MkIn.kids {w0 W:World} {E:MkE} {A B:List PN} {k:Nat} {n:Int} {s:ByteArray} {z:Int} {lg:Bool} {g c:Nat} {fv:Value} (h:MkIn w0 E (A++((k,n,s),z)::B) lg (.slice (some ⟨g,0,none⟩) (A++((k,n,s),z)::B).length c) fv W) (m:Int) :
  W.cell? ⟨g,A.length*3+1,none⟩=some (.int .i64 n)∧W.frozen? ⟨g,A.length*3+1,none⟩=false∧MkIn w0 E (A++((k,m,s),z)::B) lg (.slice (some ⟨g,0,none⟩) (A++((k,n,s),z)::B).length c) fv (W.setCell ⟨g,A.length*3+1,none⟩ (.int .i64 m)):=by
 have ho:=h.o
 have hl:(A++((k,n,s),z)::B).length=A.length+B.length+1:=by rw [List.length_append,List.length_cons];omega
 have hl2:(A++((k,m,s),z)::B).length=A.length+B.length+1:=by rw [List.length_append,List.length_cons];omega
 have hc:W.cell? ⟨g,A.length*3+1,none⟩=some (.int .i64 n):=by
  rw [ho.cellAt _ (by omega),List.map_append,List.map_cons]
  have:=zIb (A.map (·.1)) (B.map (·.1)) k n s
  rwa [List.length_map] at this
 have hg:=ho.lt g rfl
 have hgB:=h.gB
 have hg0:=h.g0
 have hz:W.frozen? ⟨g,A.length*3+1,none⟩=false:=by
  rcases ho.2 with ⟨hv,_⟩ | ⟨g',c',cur,hv,_,hh,_⟩
  ·cases hv
  ·simp only [Value.slice.injEq,Option.some.injEq,Addr.mk.injEq,and_true] at hv
   obtain ⟨rfl,_⟩:=hv
   simp [World.frozen?,hh]
 have o2:=xH ho (A.length*3+1) (by rw [yE,List.length_map];omega) (.int .i64 m)
 rw [List.map_append,List.map_cons] at o2
 have e2:=zKg (A.map (·.1)) (B.map (·.1)) k n m s
 rw [List.length_map] at e2
 rw [e2] at o2
 refine ⟨hc,hz,⟨h.b.setCell (p:=⟨g,_,none⟩) (by show _≤g;omega) _,?_,?_,?_,h.g0,h.gB,by simpa using h.B⟩⟩
 ·unfold mkB
  rw [heap_setCell_other _ _ _ _ (show E.g≠g by omega)];exact h.s
 ·rw [List.map_append,List.map_cons,hl2]
  rwa [hl] at o2 ⊢
 ·have hf:=h.f
  have e3:(A++((k,n,s),z)::B).map (·.2)=(A++((k,m,s),z)::B).map (·.2):=by rw [List.map_append,List.map_append];rfl
  rw [e3,hl] at hf
  rw [hl2]
  exact ownsRow_setCell_other hf (a:=⟨g,A.length*3+1,none⟩) (zHz ho h.f (by decide) rfl) _
def wnRel (w0:World) (E:MkE) (n q:Nat) (kp:Nat→Nat) (pend:Nat) (x0:PN) (MK:List PN) (out:List PN) (lg:Bool) (ov fv:Value) (W:World) (nv kv:Value) (wr:World):Prop :=
 ∃ (c N:Nat) (M:List PN) (us:List Nat) (out':List PN) (lg':Bool) (ov' fv':Value),nv=.int .i64 (us.length:Int)∧kv=.int .i64 (kp c:Int)∧c≤q∧M++mKids E.r.by' E.l E.r.holes (bOf E.bs) N (kp c) pend=MK∧2*(pend-kp c)+1≤N∧N≤n∧zF (M.map (·.1))=some us∧mkGo out lg (x0::M) out' lg'∧out'.length≤131073∧MkIn w0 E out' lg' ov' fv' wr∧KpC E.g ov fv ov' fv' W wr
theorem zVi (w0:World) (E:MkE) (F:MkF w0 E) (gm gy gw:Nat) (vy:Value) (n:Nat) (ih:∀ m,m<n+1→WalkC w0 E gm gy gw vy m) (W:World) (out:List PN) (lg:Bool) (ov fv:Value) (p:Nat) (hi:MkIn w0 E out lg ov fv W) (hw:WkS E gm gy gw vy W) (hn:out.length≤131073) (hp:p<E.r.by'.length) (hfuel:2*(zA E.r.by' p-p)≤n+1) (hlen:(mkM E (n+1) p).length≤2000000000000) (ho:zM E.r.by' E.r.holes p=none) :
  Calls Tryz.prog 39 #[.int .i64 (p:Int),.pointer (some ⟨gm,0,none⟩),.pointer (some ⟨gy,0,none⟩),.pointer (some ⟨gw,0,none⟩)] W (mkPost w0 E out lg ov fv (mkM E (n+1) p) W fun u=>u=.int .i64 (cntP ((mkM E (n+1) p).map (·.1)):Int)):=by
 have hone:=zPn (t:=E.r.by') (hs:=E.r.holes) (gC (jK F.rt)) (kY F.rt) (n:=n) ho hp
 obtain ⟨MK,hMK⟩:∃ MK,mKids E.r.by' E.l E.r.holes (bOf E.bs) n (p+1) (zA E.r.by' p)=MK:=⟨_,rfl⟩
 have hmk:mkM E (n+1) p=(((E.r.by'[p]).1,(cntP (MK.map (·.1)):Int),(E.r.by'[p]).2.2),-1)::MK:=by rw [← hMK];exact zHy ho hp
 rw [show cntP ((mkM E (n+1) p).map (·.1))=1 from hone]
 rw [hmk] at hlen ⊢
 have HBY:=(xQ F.rz).2.1
 obtain ⟨q,kp,KS⟩:=zWc (zI HBY.well) hp
 have hyl:=F.sr.b.1
 have hgf:=zJ (zI HBY.well) hp
 have HYES:Hid (∀ w' out' lg' ov' fv',mkGo out lg ((((E.r.by'[p]).1,(cntP (MK.map (·.1)):Int),(E.r.by'[p]).2.2),-1)::MK) out' lg'→out'.length≤131073→MkIn w0 E out' lg' ov' fv' w'→KpC E.g ov fv ov' fv' W w'→mkPost w0 E out lg ov fv ((((E.r.by'[p]).1,(cntP (MK.map (·.1)):Int),(E.r.by'[p]).2.2),-1)::MK) W (fun u=>u=.int .i64 ((1:Nat):Int)) (.returned (.int .i64 1)) w'):=Hd fun w' out' lg' ov' fv' h1 h2 h3 h4=>by
  unfold mkPost;exact ⟨out',lg',ov',fv',_,rfl,rfl,h1,h2,h3,h4⟩
 have C1:=Hd (zOg w0 E F out lg ov fv W hi p hp)
 have CP:=Hd (fun W out lg ov fv (hi:MkIn w0 E out lg ov fv W) hn p nf=>zSp w0 E out lg ov fv W hi hn p nf)
 obtain ⟨ya,yc,hvy,hyc⟩:=F.Y.slice
 have HYR:Hid (zG w0 (.slice ya E.r.by'.length yc) E.r.by'):=Hd (hvy ▸ F.Y)
 obtain ⟨va,vc,rfl,hvc,hvo⟩:=hw.r.open'
 obtain ⟨eb,eo,rfl,_,_⟩:=hvo (by rw [zN];omega)
 clear hvo
 rw [zN] at hvc
 obtain ⟨oa,oc,rfl,hoc⟩:=Row.shape (Row.of_owns hi.o)
 have hcm:=hw.cells.1
 have HI:=Hd hi
 have HWK:=Hd hw
 have HIH:=Hd ih
 have HKS:=Hd KS
 have HMK:=Hd hMK
 have HFU:=Hd hfuel
 have HLN:=Hd hlen
 have HRB:=Hd (gC (jK F.rt))
 have HRV:=Hd (kY F.rt)
 have hqn:=KS.n
 generalize mkPost w0 E out lg (.slice oa out.length oc) fv ((((E.r.by'[p]).1,(cntP (MK.map (·.1)):Int),(E.r.by'[p]).2.2),-1)::MK) W (fun u=>u=.int .i64 ((1:Nat):Int))=Q at *
 clear hi hw F ih KS hMK hfuel hlen hone hmk
 go_enter Tryz.func39,Tryz.ntmps39
 go_wp2_with fail
 refine C1.out.mono ?_
 intro e w1 h1
 unfold mkHolePost at h1
 rw [ho] at h1
 obtain ⟨hb1,rfl⟩:=h1
 unfold bindA
 clear hcm C1
 have HB2:Hid (Below W.heap.size W (w1.alloc (.cells #[.string ⟨#[]⟩,.int .i64 0,.int .i64 0] 52))):=Hd (hb1.alloc hb1.size _)
 clear hb1
 go_upto_region 9 with (fail)
 generalize w1.alloc (.cells #[.string ⟨#[]⟩,.int .i64 0,.int .i64 0] 52)=W2 at *
 have HI2:=Hd (HI.out.below HB2.out)
 have HW2:=Hd (HWK.out.below HB2.out)
 obtain ⟨m0,m1,m2⟩:=HW2.out.cells
 obtain ⟨c0,c1,c2,c3,c4,c5,c6,c7,c8,c9,c10,cz⟩:=HI2.out.s.cells
 clear c0 c1 c2 c3 c4 c5 c6 c7 c9 c10 cz m1 m2
 obtain ⟨yb,yo,rfl,y1,y2,y3,y4⟩:=HYR.out.at HI2.out.b (show 0<E.r.by'.length by omega)
 clear y1 y2 y3 y4
 have HYC:Hid (∀ W',Below w0.heap.size w0 W'→W'.cell? ⟨yb,yo+p*3,none⟩=some (.int .u8 ((E.r.by'[p]).1:Int))∧W'.cell? ⟨yb,yo+p*3+1,none⟩=some (.int .i64 (E.r.by'[p]).2.1)∧W'.cell? ⟨yb,yo+p*3+2,none⟩=some (.string (E.r.by'[p]).2.2)):=Hd fun W' hb=>by
  obtain ⟨b2,o2,e',_,_,_,hcc⟩:=HYR.out.at hb (show 0<E.r.by'.length by omega)
  simp only [Option.some.injEq,Addr.mk.injEq,and_true] at e'
  obtain ⟨rfl,rfl⟩:=e'
  exact hcc p hp
 have HBS:Hid (∀ W' o2 l2 v2 f2,MkIn w0 E o2 l2 v2 f2 W'→KpC E.g (.slice oa out.length oc) fv v2 f2 W2.drew W'→(W'.cell? ⟨gm,0,none⟩=some (.pointer (some ⟨E.g,0,none⟩))∧W'.cell? ⟨E.g,4,none⟩=some (.slice (some ⟨yb,yo,none⟩) E.r.by'.length yc)∧W'.cell? ⟨yb,yo+p*3,none⟩=some (.int .u8 ((E.r.by'[p]).1:Int))∧W'.cell? ⟨yb,yo+p*3+1,none⟩=some (.int .i64 (E.r.by'[p]).2.1)∧W'.cell? ⟨yb,yo+p*3+2,none⟩=some (.string (E.r.by'[p]).2.2))):=Hd fun W' o2 l2 v2 f2 h3 h4=>⟨((HW2.out.below (Below.refl _ _).drew).kc (HI2.out.below (Below.refl _ _).drew) h4).cells.1,by rw [h3.s.cells.2.2.2.2.1,hvy],HYC.out W' h3.b⟩
 have CP2:=Hd (CP.out W2.drew out lg _ fv (HI2.out.below (Below.refl _ _).drew) hn E.r.by'[p] (-1))
 have HBS0:=Hd (HBS.out _ _ _ _ _ (HI2.out.below (Below.refl _ _).drew) (KpC.refl _ _ _ _))
 have hp0:(0:Int)≤(p:Int):=by omega
 have hpl:(p:Int)<E.r.by'.length:=by omega
 have hpyc:(p:Int)<yc:=by omega
 have hwp:IntKind.i64.wrap ((p:Int)+1)=(p:Int)+1:=wI (by omega)
 unfold partA at CP2
 clear CP
 generalize hbp:E.r.by'[p]=pp at *
 clear hbp
 obtain ⟨pk,pn,pw⟩:=pp
 simp only [] at HBS CP2 HYES HYC HBS0
 go_upto_region 10 with (fail)
 clear m0 c8
 go_region_held3 (fun W'=>W'.cell? ⟨gm,0,none⟩=some (.pointer (some ⟨E.g,0,none⟩))∧W'.cell? ⟨E.g,4,none⟩=some (.slice (some ⟨yb,yo,none⟩) E.r.by'.length yc)∧W'.cell? ⟨yb,yo+p*3,none⟩=some (.int .u8 (pk:Int))∧W'.cell? ⟨yb,yo+p*3+1,none⟩=some (.int .i64 pn)∧W'.cell? ⟨yb,yo+p*3+2,none⟩=some (.string pw)) (first | exact HBS0.out | exact HB6.out) ((go_at_call 41;(with_reducible refine CP2.out.mono ?_);(intro e w6 h6;obtain ⟨o1,l1,v1,f1,u,rfl,_,hgo1,hol1,hi1,hk1⟩:=h6.out;have HB6:=Hd (HBS.out w6 o1 l1 v1 f1 hi1 hk1);(try dsimp only))))
 have HGO1:=Hd hgo1
 have HI1:=Hd hi1
 have HK1:=Hd (((KpC.of_below HB2.out).trans (KpC.of_below (Below.refl _ _).drew)).trans hk1)
 clear hgo1 hi1 hk1 h6 HB6 HBS HBS0 CP2
 go_wp2_with fail
 go_loopw [12,13] (fun nv kv wr=>wnRel w0 E n q kp (zA E.r.by' p) ((pk,pn,pw),-1) MK out lg (.slice oa out.length oc) fv W nv kv wr) (fun _ kv _=>zA E.r.by' p-(intOf kv).toNat)
 case atStart=>exact ⟨0,n,[],[],o1,l1,v1,f1,rfl,by rw [HKS.out.z];push_cast;rfl,Nat.zero_le _,by rw [HKS.out.z];exact HMK.out,by rw [HKS.out.z];have:=HFU.out;omega,Nat.le_refl _,kZ,HGO1.out,hol1,HI1.out,HK1.out⟩
 case round =>
  obtain ⟨c,N,M,us,out',lg',ov',fv',rfl,rfl,hc,hM,hN,hNn,hus,hgo,hol,hii,hkk⟩:=hrel
  have HM:=Hd hM
  have HUS:=Hd hus
  have HN:=Hd hN
  have HNN:=Hd hNn
  have HGO:=Hd hgo
  have HII:=Hd hii
  have HKK:=Hd hkk
  clear hM hN hNn hus hgo hii hkk
  obtain ⟨N,rfl⟩:∃ N',N=N'+1:=⟨N-1,by have:=HN.out;omega⟩
  have HWW:=Hd (HWK.out.kc HI.out HKK.out)
  obtain ⟨m0,m1,m2⟩:=HWW.out.cells
  obtain ⟨eb2,eo2,e',y1,y2,hce⟩:=gX HWW.out.r (Below.refl _ _) (by rw [zN];omega)
  simp only [Option.some.injEq,Addr.mk.injEq,and_true] at e'
  obtain ⟨rfl,rfl⟩:=e'
  clear y1 y2
  have cp:=hce _ _ (xJ (l:=E.r.by') (j:=p) hp)
  rw [zN] at m1
  by_cases hlt:c<q
  case neg =>
   obtain rfl:c=q:=by omega
   have hkq:=HKS.out.e
   have hM:=HM.out
   rw [hkq,zWr,List.append_nil] at hM
   have hcn:cntP (MK.map (·.1))=us.length:=by rw [← hM];exact jY HUS.out
   rw [hcn] at HYES
   rw [hM] at HGO
   have hkq':¬ (kp c:Int)<(zA E.r.by' p:Int):=by rw [hkq];omega
   obtain ⟨c0,c1,c2,c3,c4,c5,c6,c7,c8,c9,c10,cz⟩:=HII.out.s.cells
   clear c0 c1 c2 c3 c4 c5 c6 c7 c9 cz hce hM
   cases lg' with
   | true =>
    have HX:=Hd (HYES.out wr out' true ov' fv' (HGO.out.same (by simp)) hol HII.out HKK.out)
    clear c8
    generalize kp c=kc at *
    generalize zA E.r.by' p=ei at *
    go_wp2_with fail
    exact HX.out
   | false =>
    obtain ⟨hlg,hlen2⟩:lg=false∧out.length+(((pk,pn,pw),(-1:Int))::MK).length≤131073:=by
     apply Classical.byContradiction
     intro h
     have:=HGO.out.2 h
     cases this
    obtain ⟨_,rfl⟩:=HGO.out.1 ⟨hlg,hlen2⟩
    obtain ⟨oa2,on2,oc2,hov⟩:=zC HII.out.o
    subst hov
    obtain rfl:on2=(out++((pk,pn,pw),(-1:Int))::MK).length:=by
     obtain ⟨_,_,_,e,_⟩:=Row.of_owns HII.out.o
     simp only [Value.slice.injEq] at e
     exact e.2.1
    obtain ⟨gO,rfl⟩:=xF HII.out.o (by simp;omega)
    have hoc2:(out++((pk,pn,pw),(-1:Int))::MK).length≤oc2:=by
     obtain ⟨_,_,_,e,h,_⟩:=Row.of_owns HII.out.o
     simp only [Value.slice.injEq] at e
     omega
    obtain ⟨k1,k2,k3⟩:=HII.out.kids (us.length:Int)
    have HX:=Hd (HYES.out _ _ _ _ _ ⟨fun _=>⟨rfl,rfl⟩,fun h=>absurd ⟨hlg,by simpa using hlen2⟩ h⟩ (by simpa using hol) k3 (HKK.out.setO rfl (out.length*3+1) (.int .i64 (us.length:Int))))
    have hol1:(out.length:Int)<((out++((pk,pn,pw),(-1:Int))::MK).length:Int):=by rw [List.length_append,List.length_cons];push_cast;omega
    have hol2:(out.length:Int)<(oc2:Int):=by rw [List.length_append,List.length_cons] at hoc2;omega
    have hol0:(0:Int)≤(out.length:Int):=by omega
    clear k3 HGO hlen2 hol
    generalize (out++((pk,pn,pw),(-1:Int))::MK).length=on at *
    generalize kp c=kc at *
    generalize zA E.r.by' p=ei at *
    go_wp2_with fail
    exact HX.out
  have hx:=HKS.out.lt c hlt
  have hup:=HKS.out.up c hlt
  have hle:=HKS.out.le (c+1) hlt
  have hnx:=HKS.out.nx c hlt
  have hNo:=HN.out
  have hM:=HM.out
  rw [zVg (show kp c≠zA E.r.by' p by omega),hnx] at hM
  have hml:=congrArg List.length hM
  have hln:=HLN.out
  rw [List.length_append,List.length_append] at hml
  rw [List.length_cons] at hln
  have CI:=Hd (HIH.out N (by have:=HNN.out;omega) wr out' lg' ov' fv' (kp c) HII.out HWW.out hol hx (by rw [hnx];omega) (by show (mkM E N (kp c)).length≤_;unfold mkM;omega))
  obtain ⟨ts,hts⟩:=zAi (t:=E.r.by') (hs:=E.r.holes) HRB.out HRV.out N (kp c)
  have hcnt:cntP ((mkM E N (kp c)).map (·.1))=ts.length:=jY hts
  rw [hcnt] at CI
  have hul:us.length≤2000000000000:=by
   have h1:=(yO HUS.out).2.1
   rw [List.length_map] at h1
   omega
  have htl2:ts.length≤2000000000000:=by
   have h1:=(yO hts).2.1
   rw [List.length_map] at h1
   omega
  have hwu:IntKind.i64.wrap ((us.length:Int)+(ts.length:Int))=(us.length:Int)+(ts.length:Int):=wI (by omega)
  have HXX:Hid (∀ w6 o2 l2 v2 f2,mkGo out' lg' (mkM E N (kp c)) o2 l2→o2.length≤131073→MkIn w0 E o2 l2 v2 f2 w6→KpC E.g ov' fv' v2 f2 wr w6→wnRel w0 E n q kp (zA E.r.by' p) ((pk,pn,pw),-1) MK out lg (.slice oa out.length oc) fv W (.int .i64 ((us.length:Int)+(ts.length:Int))) (.int .i64 (zA E.r.by' (kp c):Int)) w6):=Hd fun w6 o2 l2 v2 f2 h1 h2 h3 h4=>⟨c+1,N,M++mkM E N (kp c),us++ts,o2,l2,v2,f2,by rw [List.length_append];push_cast;rfl,by rw [hnx],hlt,by rw [List.append_assoc];exact hM,by omega,by have:=HNN.out;omega,by rw [List.map_append];exact gK HUS.out hts,by rw [← List.cons_append];exact HGO.out.app h1,h2,h3,HKK.out.trans h4⟩
  have HRC:Hid (∀ w6 o2 l2 v2 f2,MkIn w0 E o2 l2 v2 f2 w6→KpC E.g ov' fv' v2 f2 wr w6→w6.cell? ⟨gy,0,none⟩=some (.slice (some ⟨eb,eo,none⟩) E.r.by'.length vc)∧w6.cell? ⟨eb,eo+kp c,none⟩=some (.int .i64 (zA E.r.by' (kp c):Int))):=Hd fun w6 o2 l2 v2 f2 h3 h4=>by
   have hw6:=HWW.out.kc HII.out h4
   obtain ⟨eb2,eo2,e',_,_,hce2⟩:=gX hw6.r (Below.refl _ _) (by rw [zN];omega)
   simp only [Option.some.injEq,Addr.mk.injEq,and_true] at e'
   obtain ⟨rfl,rfl⟩:=e'
   refine ⟨?_,hce2 _ _ (xJ (l:=E.r.by') (j:=kp c) hx)⟩
   have:=hw6.cells.2.1
   rwa [zN] at this
  have hms:Hid (zA E.r.by' p-zA E.r.by' (kp c)<zA E.r.by' p-kp c):=Hd (by rw [hnx];omega)
  have hke:(kp c:Int)<(zA E.r.by' p:Int):=by omega
  have hk0:(0:Int)≤(kp c:Int):=by omega
  have hkl:(kp c:Int)<E.r.by'.length:=by omega
  have hkv:(kp c:Int)<vc:=by omega
  clear hx hup hle hnx hNo hM hml hln HM HN hts hcnt hce
  generalize zA E.r.by' (kp c)=ek at *
  generalize kp c=kc at *
  generalize zA E.r.by' p=ei at *
  go_wp2_with fail
  refine CI.out.mono ?_
  intro e w6 h6
  obtain ⟨o2,l2,v2,f2,u,rfl,rfl,hgo2,hol2,hi2,hk2⟩:=h6.out
  have HX:=Hd (HXX.out w6 o2 l2 v2 f2 hgo2 hol2 hi2 hk2)
  obtain ⟨g1,g2⟩:=HRC.out w6 o2 l2 v2 f2 hi2 hk2
  clear hgo2 hi2 hk2 h6 m0 m1 m2 cp
  go_wp2_with fail
  exact ⟨HX.out,by have:=hms.out;simp only [intOf];omega⟩
theorem zWs (w0:World) (E:MkE) (F:MkF w0 E) (gm gy gw:Nat) (vy:Value):∀ n,WalkC w0 E gm gy gw vy n:=by
 intro n
 induction n using Nat.strongRecOn with
 | ind n ih =>
  intro W out lg ov fv p hi hw hn hp hf hlen
  have hg:=(zJ (zI (xQ F.rz).2.1.well) hp).1
  obtain ⟨m,rfl⟩:∃ m,n=m+1:=⟨n-1,by omega⟩
  cases ho:zM E.r.by' E.r.holes p with
  | some h=>exact zVh w0 E F gm gy gw vy m W out lg ov fv p hi hw hn hp h ho
  | none=>exact zVi w0 E F gm gy gw vy m ih W out lg ov fv p hi hw hn hp hf hlen ho
end Go.Proofs.YtfalelkfhandfaaGreatDoor
