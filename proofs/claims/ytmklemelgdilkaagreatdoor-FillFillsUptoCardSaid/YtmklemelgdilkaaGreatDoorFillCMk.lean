/- Layer 20: fill.check, walked. -/
import Derived.Test.YtmklemelgdilkaaGreatDoorRulesVMk
import Derived.Test.YtmklemelgdilkaaGreatDoorTermMk
import Derived.Test.YtmklemelgdilkaaGreatDoorCheckBMk
import Derived.Test.YtmklemelgdilkaaGreatDoorInstPMk
import Derived.BigQuiet
import Derived.Deep.QuietTactic
import Derived.Test.YtmklemelgdilkaaGreatDoorFillBMk
import Derived.Test.YtmklemelgdilkaaGreatDoorStillMk
namespace Go.Proofs.YtmklemelgdilkaaGreatDoor
set_option linter.all false
attribute [local irreducible] Calls
open Go.RowKit

def lcRel (rs:List RuleX) (w0:World) (iv:Value) (wr:World):Prop:=∃ k:Nat,iv=.int .i64 (k:Int)∧k≤rs.length∧firstErr (rs.map (·.1))=firstErr ((rs.drop k).map (·.1))∧Below w0.heap.size w0 wr
set_option maxRecDepth 100000 in
set_option maxHeartbeats 8000000 in
theorem fill_check (rs:List RuleX) (hs:∀ x∈rs,SmallR x.1) (l:List Prt) (hl:l.length≤1048576) (vr vl:Value) (w:World) (hT:Tabs w) (hM:MaxC w) (hr:RulesIn w vr rs) (hlr:PartRow w vl l) :
  Calls Tryz.prog 16 #[vr,vl] w fun e w'=>e=.returned (.int .i64 (findErr (rs.map (·.1)) l))∧Below w.heap.size w w':=by
 have HQ:RowKit.Hid (∀ x w',findErr (rs.map (·.1)) l=x→Below w.heap.size w w'→(fun (e:Ending) w'=>e=.returned (.int .i64 (findErr (rs.map (·.1)) l))∧Below w.heap.size w w') (.returned (.int .i64 x)) w'):=Hd fun x w' h hb=>⟨by rw [h],hb⟩
 generalize (fun (e:Ending) w'=>e=.returned (.int .i64 (findErr (rs.map (·.1)) l))∧Below w.heap.size w w')=Q at *
 have HF:RowKit.Hid (findErr (rs.map (·.1)) l=if wellB l=false then 8 else if 32<rs.length then 14 else firstErr (rs.map (·.1))):=Hd (by unfold findErr;rw [List.length_map])
 obtain ⟨ar,cr,rfl,hcr⟩:=hr.shape
 obtain ⟨al,cl,rfl,hcl⟩:=hlr.slice
 have CW:=Hd (term_Well l (by omega) _ w hlr)
 have HS:=Hd hs
 have HR:=Hd hr
 have HT:=Hd hT
 have HMX:=Hd hM
 clear hr hlr hs hT hM
 go_enter Tryz.func16,Tryz.ntmps16
 go_wp2_with fail
 refine CW.out.mono ?_
 rintro e W1 ⟨rfl,hb1⟩
 have HB1:=Hd hb1
 clear hb1 CW
 cases hw:wellB l with
 | false =>
  have HX:=Hd (HQ.out 8 W1 (by rw [HF.out,hw];rfl) HB1.out)
  clear hw
  go_wp2_with fail
  exact HX.out
 | true =>
 have HW:=Hd hw
 clear hw
 by_cases h32:32<rs.length
 ·have HX:=Hd (HQ.out 14 W1 (by rw [HF.out,HW.out,if_neg (by simp),if_pos h32]) HB1.out)
  have g1:(32:Int)<rs.length:=by omega
  go_wp2_with fail
  exact HX.out
 have HFE:RowKit.Hid (findErr (rs.map (·.1)) l=firstErr (rs.map (·.1))):=Hd (by rw [HF.out,HW.out,if_neg (by simp),if_neg h32])
 have h32':(rs.length:Int)≤32:=by omega
 clear h32
 go_wp2_with fail
 go_loopw [18] (fun iv wr=>lcRel rs W1 iv wr) (fun iv _=>rs.length-(intOf iv).toNat)
 case atStart=>exact ⟨0,rfl,Nat.zero_le _,rfl,Below.refl _ _⟩
 case round =>
  obtain ⟨k,rfl,hk,hfe,hb⟩:=hrel
  have HB:=Hd hb
  have HE:=Hd hfe
  clear hb hfe
  by_cases hlt:k<rs.length
  ·obtain ⟨b,off,rfl,_,_,hbl,hcell⟩:=HR.out.at (bthen HB1.out HB.out) (show 0<rs.length by omega)
   obtain ⟨d0,d1,d2,d3,d4⟩:=hcell k hlt
   have hin:=HR.out.E _ (List.getElem_mem hlt)
   have hsm:=HS.out _ (List.getElem_mem hlt)
   have HE2:RowKit.Hid (firstErr (rs.map (·.1))=if ruleZ (rs[k]).1=0 then firstErr ((rs.drop (k+1)).map (·.1)) else ruleZ (rs[k]).1):=Hd (by
    rw [HE.out,List.drop_eq_getElem_cons hlt,List.map_cons,firstErr])
   generalize rs[k]=x at *
   obtain ⟨r,vh,vf,vb⟩:=x
   simp only [] at d0 d1 d2 d3 d4 hin hsm HE2
   obtain ⟨ah,ch,rfl,hch⟩:=Row.shape hin.H
   obtain ⟨af,cf,rfl,hcf⟩:=hin.F.slice
   obtain ⟨ab,cb,rfl,hcb⟩:=hin.B.slice
   have HBA:RowKit.Hid (Below W1.heap.size W1 (wr.alloc (.cells #[.string r.nm,.int .u8 (r.goal:Int),.slice ah r.holes.length ch,.slice af r.fnd.length cf,.slice ab r.by'.length cb] 35))):=Hd (HB.out.alloc HB.out.size _)
   have CR:=Hd (rule_Check r hsm _ _ _ _ (HT.out.below (bthen HB1.out HBA.out)) (HMX.out.below (bthen HB1.out HBA.out)) (hin.below (bthen HB1.out HBA.out)))
   unfold ruleAgg at CR
   clear hcell hin hsm
   go_wp2_with fail
   refine CR.out.mono ?_
   rintro e W3 ⟨rfl,hb3⟩
   have HB3:=Hd (bthen HBA.out hb3)
   clear hb3 CR HBA d0 d1 d2 d3 d4
   by_cases hz:ruleZ r=0
   ·have HX:RowKit.Hid (lcRel rs W1 (.int .i64 ((k:Int)+1)) W3):=Hd ⟨k+1,by push_cast;rfl,hlt,by rw [HE2.out,if_pos hz],HB3.out⟩
    rw [hz]
    clear hz
    go_wp2_with fail
    case roundEnd=>exact ⟨HX.out,by simp only [intOf];omega⟩
   ·have HX:=Hd (HQ.out (ruleZ r) W3 (by rw [HFE.out,HE2.out,if_neg hz]) (bthen HB1.out HB3.out))
    have g1:(ruleZ r != 0)=true:=by rw [bne_iff_ne];exact hz
    have g2:(ruleZ r == 0)=false:=by rw [beq_eq_false_iff_ne];exact hz
    clear hz
    generalize ruleZ r=z at *
    go_wp2_with fail
    exact HX.out
  ·obtain rfl:k=rs.length:=by omega
   have HX:=Hd (HQ.out 0 wr (by rw [HFE.out,HE.out,List.drop_length];rfl) (bthen HB1.out HB.out))
   go_wp2_with fail
   exact HX.out
end Go.Proofs.YtmklemelgdilkaaGreatDoor
namespace Go.Proofs.YtmklemelgdilkaaGreatDoor
set_option linter.all false

theorem right_len {r:RuleM} {l:List Prt} {bs:List Bnd} (h:bs.length≠r.holes.length):rightB r l bs=false:=by
 cases e:rightB r l bs with
 | false=>rfl
 | true=>exact absurd (rightB_iff.1 e).1 h
theorem right_no {r:RuleM} {l:List Prt} {bs:List Bnd} {n:Nat} (hh:n<r.holes.length) (hb:n<bs.length) (h:okB l r.holes[n] bs[n]=false):rightB r l bs=false:=by
 cases e:rightB r l bs with
 | false=>rfl
 | true =>
  have:=(rightB_iff.1 e).2 n hh hb
  rw [h] at this
  cases this
def RightTo (r:RuleM) (l:List Prt) (bs:List Bnd) (n:Nat):Prop:=∀ i (hh:i<r.holes.length) (hb:i<bs.length),i<n→okB l r.holes[i] bs[i]=true
theorem right_yes {r:RuleM} {l:List Prt} {bs:List Bnd} (hl:bs.length=r.holes.length) (h:RightTo r l bs bs.length):rightB r l bs=true:=rightB_iff.2 ⟨hl,fun i hh hb=>h i hh hb hb⟩
theorem RightTo.next {r:RuleM} {l:List Prt} {bs:List Bnd} {n:Nat} (h:RightTo r l bs n) (hk:∀ (hh:n<r.holes.length) (hb:n<bs.length),okB l r.holes[n] bs[n]=true):RightTo r l bs (n+1):=fun i hh hb hi=>by
 by_cases e:i=n
 ·subst e;exact hk hh hb
 ·exact h i hh hb (by omega)
section
variable {l:List Prt} {h:Hl} {b:Bnd}
theorem okB_name (e:b.1≠h.1):okB l h b=false:=by unfold okB;rw [decide_eq_false e];rfl
theorem okB_rng (e:¬ (0≤b.2.1∧b.2.1≤b.2.2∧b.2.2≤l.length)):okB l h b=false:=by unfold okB;rw [decide_eq_false e];simp
theorem okB_trees (e:treesZ (piece l b.2.1.toNat b.2.2.toNat)<0):okB l h b=false:=by unfold okB;rw [decide_eq_false (show ¬ 0≤treesZ (piece l b.2.1.toNat b.2.2.toNat) by omega)];simp
theorem okB_one (hs:isSev h.2=false) (e:treesZ (piece l b.2.1.toNat b.2.2.toNat)≠1):okB l h b=false:=by unfold okB;rw [hs,decide_eq_false e];simp
theorem okB_may (hs:isSev h.2=false) (e:mayB h.2 (kindAt l b.2.1.toNat)=false):okB l h b=false:=by unfold okB;rw [hs,e];simp
theorem okB_yes (e1:b.1=h.1) (e2:0≤b.2.1∧b.2.1≤b.2.2∧b.2.2≤l.length) (e3:0≤treesZ (piece l b.2.1.toNat b.2.2.toNat)) (e4:isSev h.2=false→treesZ (piece l b.2.1.toNat b.2.2.toNat)=1∧mayB h.2 (kindAt l b.2.1.toNat)=true):okB l h b=true:=by
 unfold okB
 rw [decide_eq_true e1,decide_eq_true e2,decide_eq_true e3]
 cases hs:isSev h.2 with
 | true=>rfl
 | false =>
  obtain ⟨e5,e6⟩:=e4 hs
  rw [decide_eq_true e5,e6];rfl
end
end Go.Proofs.YtmklemelgdilkaaGreatDoor
namespace Go.Proofs.YtmklemelgdilkaaGreatDoor
set_option linter.all false
attribute [local irreducible] Calls
open Go.RowKit

@[irreducible] def AnyInt (w0:World) (e:Ending) (w':World):Prop:=∃ z:Int,e=.returned (.int .i64 z)∧Below w0.heap.size w0 w'
@[irreducible] def AnyBool (w0:World) (e:Ending) (w':World):Prop:=∃ x:Bool,e=.returned (.bool x)∧Below w0.heap.size w0 w'
theorem AnyInt.mk {w0 w':World} (z:Int) (h:Below w0.heap.size w0 w'):AnyInt w0 (.returned (.int .i64 z)) w':=by unfold AnyInt;exact ⟨z,rfl,h⟩
theorem AnyBool.mk {w0 w':World} (x:Bool) (h:Below w0.heap.size w0 w'):AnyBool w0 (.returned (.bool x)) w':=by unfold AnyBool;exact ⟨x,rfl,h⟩
theorem AnyInt.out {w0 w':World} {e:Ending} (h:AnyInt w0 e w'):∃ z:Int,e=.returned (.int .i64 z)∧Below w0.heap.size w0 w':=by unfold AnyInt at h;exact h
theorem AnyBool.out {w0 w':World} {e:Ending} (h:AnyBool w0 e w'):∃ x:Bool,e=.returned (.bool x)∧Below w0.heap.size w0 w':=by unfold AnyBool at h;exact h
set_option maxRecDepth 100000 in
set_option maxHeartbeats 4000000 in
theorem ref_Several (s:ByteArray) (k:Nat) (w:World) :
  Calls Tryz.prog 42 #[.agg #[.string s,.int .u8 (k:Int)]] w fun e w'=>e=.returned (.bool (isSev k))∧Below w.heap.size w w':=by
 have HX:=Hd ((Below.refl w.heap.size w).alloc (Nat.le_refl _) (.cells #[.string s,.int .u8 (k:Int)] 43))
 have HQ:RowKit.Hid (∀ x w',isSev k=x→Below w.heap.size w w'→(fun (e:Ending) w'=>e=.returned (.bool (isSev k))∧Below w.heap.size w w') (.returned (.bool x)) w'):=Hd fun x w' h hb=>⟨by rw [h],hb⟩
 generalize (fun (e:Ending) w'=>e=.returned (.bool (isSev k))∧Below w.heap.size w w')=Q at *
 by_cases h6:k=6
 ·subst h6
  have HZ:=Hd (HQ.out true _ rfl HX.out)
  go_enter Tryz.func42,Tryz.ntmps42
  go_wp2_with fail
  exact HZ.out
 by_cases h7:k=7
 ·subst h7
  have HZ:=Hd (HQ.out true _ rfl HX.out)
  go_enter Tryz.func42,Tryz.ntmps42
  go_wp2_with fail
  exact HZ.out
 have g6:((k:Int) == 6)=false:=by rw [beq_eq_false_iff_ne];omega
 have g7:((k:Int) == 7)=false:=by rw [beq_eq_false_iff_ne];omega
 have HZ:=Hd (HQ.out false _ (by unfold isSev;simp [h6,h7]) HX.out)
 clear h6 h7
 go_enter Tryz.func42,Tryz.ntmps42
 go_wp2_with fail
 exact HZ.out
end Go.Proofs.YtmklemelgdilkaaGreatDoor
namespace Go.Proofs.YtmklemelgdilkaaGreatDoor
set_option linter.all false
attribute [local irreducible] Calls
attribute [local irreducible] wpStill
open Go.RowKit

@[irreducible] def sizePost (total:Nat) (w0:World) (e:Ending) (w':World):Prop:=∃ n:Nat,e=.returned (.int .i64 (n:Int))∧n≤4000000∧(n=total∨(262144<n∧n≤total))∧Below w0.heap.size w0 w'
theorem sizePost.out {total:Nat} {w0 w':World} {e:Ending} (h:sizePost total w0 e w'):∃ n:Nat,e=.returned (.int .i64 (n:Int))∧n≤4000000∧(n=total∨(262144<n∧n≤total))∧Below w0.heap.size w0 w':=by unfold sizePost at h;exact h
def szRel (t:List Prt) (hs:List Hl) (bs:List Bnd) (total:Nat) (w1:World) (nv pv:Value) (wr:World):Prop:=∃ n p:Nat,nv=.int .i64 (n:Int)∧pv=.int .i64 (p:Int)∧p≤t.length+1∧n≤4000000∧n+sizeS t hs (bOf bs) t.length p=total∧Below w1.heap.size w1 wr
theorem size_one {t:List Prt} {hs:List Hl} {b:Nat→Nat×Nat} {p:Nat} (hp:p<t.length) (h:holeOf t hs p=none):sizeS t hs b t.length p=1+sizeS t hs b t.length (p+1):=by
 obtain ⟨N,hN⟩:∃ N,t.length=N+1:=⟨t.length-1,by omega⟩
 rw [sizeS_fuel t hs b t.length (N+1) p (by omega) (by omega),sizeS,if_pos hp,h]
 simp only []
 rw [sizeS_fuel t hs b N t.length (p+1) (by omega) (by omega)]
theorem size_hole {t:List Prt} {hs:List Hl} {b:Nat→Nat×Nat} {p k:Nat} (hp:p<t.length) (h:holeOf t hs p=some k):sizeS t hs b t.length p=((b k).2-(b k).1)+sizeS t hs b t.length (if (t[p]).1=50 then p+2 else p+1):=by
 obtain ⟨N,hN⟩:∃ N,t.length=N+1:=⟨t.length-1,by omega⟩
 have hk:kindAt t p=(t[p]).1:=by unfold kindAt;rw [List.getElem?_eq_getElem hp]
 rw [sizeS_fuel t hs b t.length (N+1) p (by omega) (by omega),sizeS,if_pos hp,h]
 simp only []
 rw [hk,sizeS_fuel t hs b N t.length _ (by split <;> omega) (by split <;> omega)]
set_option maxRecDepth 100000 in
set_option maxHeartbeats 16000000 in
theorem ref_Size (r:RuleM) (hr:ruleZ r=0) (hsm:SmallR r) (vh vf vb:Value) (l:List Prt) (hl:l.length≤1048576) (vq:Value) (bs:List Bnd) (hn:bs.length=r.holes.length) (hbi:BindsIn bs l) (w:World) (hin:RuleIn w r vh vf vb) (hrb:BindRow w vq bs) :
  Calls Tryz.prog 44 #[ruleAgg r vh vf vb,vq] w (sizePost (madeP r l bs).length w):=by
 have hmt:=m_total r.by' l r.holes (bOf bs) (rule_holes hr).2.1
 have HQ:RowKit.Hid (∀ (n:Nat) w',n≤4000000→(n=(madeP r l bs).length∨(262144<n∧n≤(madeP r l bs).length))→Below w.heap.size w w'→sizePost (madeP r l bs).length w (.returned (.int .i64 (n:Int))) w'):=Hd fun n w' h1 h2 h3=>by unfold sizePost;exact ⟨n,rfl,h1,h2,h3⟩
 generalize sizePost (madeP r l bs).length w=Q at *
 unfold madeP at HQ
 rw [← hmt] at HQ
 clear hmt
 obtain ⟨ah,ch,rfl,hch⟩:=Row.shape hin.H
 obtain ⟨af,cf,rfl,hcf⟩:=hin.F.slice
 obtain ⟨ab,cb,rfl,hcb⟩:=hin.B.slice
 obtain ⟨aq,cq,rfl,hcq⟩:=Row.shape hrb
 have hhl:=hsm.h.1
 have hyl:=hsm.b.1
 have CH:=Hd (fun p (hp:p<r.by'.length) W (hb:Below w.heap.size w W)=>ref_Hole r.by' r.holes hyl hhl p hp _ _ W (hin.B.below hb) (hin.H.below hb))
 have HIN:=Hd hin
 have HRB:=Hd hrb
 have HBI:=Hd hbi
 have HNN:=Hd hn
 have HR1:RowKit.Hid (RK (w.alloc (.cells #[.string r.nm,.int .u8 (r.goal:Int),.slice ah r.holes.length ch,.slice af r.fnd.length cf,.slice ab r.by'.length cb] 35)) w.heap.size r.nm r.goal (.slice ah r.holes.length ch) (.slice af r.fnd.length cf) (.slice ab r.by'.length cb)):=Hd (heap_alloc_new _ _)
 have HB1:RowKit.Hid (Below w.heap.size w (w.alloc (.cells #[.string r.nm,.int .u8 (r.goal:Int),.slice ah r.holes.length ch,.slice af r.fnd.length cf,.slice ab r.by'.length cb] 35))):=Hd ((Below.refl _ _).alloc (Nat.le_refl _) _)
 clear hin hrb hbi hn hsm hr
 unfold ruleAgg
 go_enter Tryz.func44,Tryz.ntmps44
 go_upto_region 1 with (fail)
 generalize w.alloc (.cells #[.string r.nm,.int .u8 (r.goal:Int),.slice ah r.holes.length ch,.slice af r.fnd.length cf,.slice ab r.by'.length cb] 35)=W1 at *
 obtain ⟨gr,hgr⟩:∃ gr,w.heap.size=gr:=⟨_,rfl⟩
 rw [hgr] at HR1 ⊢
 clear hgr
 go_wp2_with fail
 go_loopw [5,6] (fun nv pv wr=>szRel r.by' r.holes bs (sizeS r.by' r.holes (bOf bs) r.by'.length 0) W1 nv pv wr) (fun _ pv _=>r.by'.length+1-(intOf pv).toNat)
 case atStart=>exact ⟨0,0,rfl,rfl,Nat.zero_le _,Nat.zero_le _,by omega,Below.refl _ _⟩
 case round =>
  obtain ⟨n,p,rfl,rfl,hp,hn,hsz,hb⟩:=hrel
  have HSZ:=Hd hsz
  have HB:=Hd hb
  have HBW:=Hd (bthen HB1.out hb)
  clear hb hsz
  obtain ⟨e0,e1,e2,e3,e4⟩:=(HR1.out.below HB.out).cells
  clear e0 e1 e3
  by_cases hlt:p<r.by'.length
  case neg =>
   have hpl:¬ (p:Int)<r.by'.length:=by omega
   have HX:=Hd (HQ.out n wr hn (Or.inl (by have h1:=HSZ.out;have h2:=sizeS_end (t:=r.by') (hs:=r.holes) (b:=bOf bs) r.by'.length p (by omega);omega)) HBW.out)
   go_wp2_with fail
   exact HX.out
  have hpl:(p:Int)<r.by'.length:=by omega
  by_cases hn2:n≤262144
  case neg =>
   have hnn:¬ (n:Int)≤262144:=by omega
   have HX:=Hd (HQ.out n wr hn (Or.inr ⟨by omega,by have:=HSZ.out;omega⟩) HBW.out)
   go_wp2_with fail
   exact HX.out
  have hnn:(n:Int)≤262144:=by omega
  have hwp:IntKind.i64.wrap ((p:Int)+1)=(p:Int)+1:=by rw [IntKind.wrap_i64];omega
  have C1:=Hd (CH.out p hlt wr HBW.out)
  cases ho:holeOf r.by' r.holes p with
  | none =>
   rw [ho] at C1
   simp only [holeI] at C1
   have hwn:IntKind.i64.wrap ((n:Int)+1)=(n:Int)+1:=by rw [IntKind.wrap_i64];omega
   have HNX:RowKit.Hid (∀ w',Below W1.heap.size W1 w'→szRel r.by' r.holes bs (sizeS r.by' r.holes (bOf bs) r.by'.length 0) W1 (.int .i64 ((n:Int)+1)) (.int .i64 ((p:Int)+1)) w'):=Hd fun w' hb=>⟨n+1,p+1,by push_cast;rfl,by push_cast;rfl,by omega,by omega,by have:=HSZ.out;rw [size_one hlt ho] at this;omega,hb⟩
   clear ho
   go_wp2_with fail
   refine C1.out.mono ?_
   rintro e w2 ⟨rfl,hb2⟩
   have HX:=Hd (HNX.out w2 (bthen HB.out hb2))
   clear hb2
   go_wp2_with fail
   exact ⟨HX.out,by simp only [intOf];omega⟩
  | some k =>
   rw [ho] at C1
   simp only [holeI] at C1
   have hk:k<bs.length:=by rw [HNN.out];exact (holeOf_inv ho).1
   have hkb:=HBI.out _ (List.getElem_mem hk)
   have hsz2:=HSZ.out
   rw [size_hole hlt ho,bOf_at hk] at hsz2
   simp only [] at hsz2
   have HCB:=Hd (fun W (hb:Below w.heap.size w W)=>by
    obtain ⟨b2,o2,e',_,_,_,hcc⟩:=HRB.out.at hb (show 0<bs.length by omega)
    exact (⟨b2,o2,e',(hcc k hk).2.1,(hcc k hk).2.2⟩:∃ b2 o2,aq=some ⟨b2,o2,none⟩∧W.cell? ⟨b2,o2+k*3+1,none⟩=some (.int .i64 (bs[k]).2.1)∧W.cell? ⟨b2,o2+k*3+2,none⟩=some (.int .i64 (bs[k]).2.2)))
   obtain ⟨fr,hfr⟩:∃ fr:Nat,(bs[k]).2.1=(fr:Int):=⟨(bs[k]).2.1.toNat,by omega⟩
   obtain ⟨tx,htx⟩:∃ tx:Nat,(bs[k]).2.2=(tx:Int):=⟨(bs[k]).2.2.toNat,by omega⟩
   rw [hfr,htx] at hsz2 hkb HCB
   simp only [Int.toNat_natCast] at hsz2
   clear hfr htx ho
   have hft:fr≤tx:=by omega
   have htl:tx≤l.length:=by omega
   have hk0:(0:Int)≤(k:Int):=by omega
   have hk1:¬ (k:Int)<0:=by omega
   have hkl:(k:Int)<bs.length:=by omega
   have hkc:(k:Int)<cq:=by omega
   have hp0:(0:Int)≤(p:Int):=by omega
   have hpc:(p:Int)<cb:=by omega
   have hw1:IntKind.i64.wrap ((n:Int)+(tx:Int))=(n:Int)+(tx:Int):=by rw [IntKind.wrap_i64];omega
   have hw2:IntKind.i64.wrap ((n:Int)+(tx:Int)-(fr:Int))=(n:Int)+(tx:Int)-(fr:Int):=by rw [IntKind.wrap_i64];omega
   obtain ⟨nn,hnnn⟩:∃ nn:Nat,(n:Int)+(tx:Int)-(fr:Int)=(nn:Int):=⟨n+tx-fr,by omega⟩
   have hnn4:nn≤4000000:=by omega
   have HKD:=Hd (fun W (hb:Below w.heap.size w W)=>by
    obtain ⟨b2,o2,e',_,_,_,hcc⟩:=HIN.out.B.at hb (show 0<r.by'.length by omega)
    exact (⟨b2,o2,e',(hcc p hlt).1⟩:∃ b2 o2,ab=some ⟨b2,o2,none⟩∧W.cell? ⟨b2,o2+p*3,none⟩=some (.int .u8 ((r.by'[p]).1:Int))))
   have HNX:RowKit.Hid (∀ (q:Nat) w',q=(if (r.by'[p]).1=50 then p+2 else p+1)→q≤r.by'.length+1→Below W1.heap.size W1 w'→szRel r.by' r.holes bs (sizeS r.by' r.holes (bOf bs) r.by'.length 0) W1 (.int .i64 (nn:Int)) (.int .i64 (q:Int)) w'):=Hd fun q w' hq hql hb=>⟨nn,q,rfl,rfl,hql,hnn4,by rw [hq];omega,hb⟩
   clear hsz2 hkb hft htl
   go_wp2_with fail
   refine C1.out.mono ?_
   rintro e w2 ⟨rfl,hb2⟩
   have HB2:=Hd (bthen HB.out hb2)
   have HBW2:=Hd (bthen HBW.out hb2)
   clear hb2 C1 e2 e4
   go_upto_region 8 with (fail)
   have HBD2:=Hd (HB2.out.drew)
   have HBDW2:=Hd (HBW2.out.drew)
   obtain ⟨qb,qo,rfl,q1,q2⟩:=HCB.out w2.drew HBDW2.out
   obtain ⟨yb,yo,rfl,y0⟩:=HKD.out w2.drew HBDW2.out
   obtain ⟨e0,e1,e2,e3,e4⟩:=(HR1.out.below HBD2.out).cells
   clear e0 e1 e2 e3
   rw [hnnn] at hw2
   go_still_tail 13,(by kernel_rfl)
   clear HCB HKD
   generalize (r.by'[p]).1=kp at *
   by_cases h50:kp=50
   ·subst h50
    have hwp2:IntKind.i64.wrap ((p:Int)+1+1)=(p:Int)+1+1:=by rw [IntKind.wrap_i64];omega
    by_cases hpe:p+1<r.by'.length+1
    ·have HX:=Hd (HNX.out (p+2) w2.drew rfl (by omega) HBD2.out)
     rw [show ((p+2:Nat):Int)=(p:Int)+1+1 by push_cast;omega] at HX
     go_wp2_with fail
     exact ⟨HX.out,by simp only [intOf];omega⟩
    ·omega
   ·have g50:((kp:Int) == 50)=false:=by rw [beq_eq_false_iff_ne];omega
    have HX:=Hd (HNX.out (p+1) w2.drew (by rw [if_neg h50]) (by omega) HBD2.out)
    rw [show ((p+1:Nat):Int)=(p:Int)+1 by push_cast;omega] at HX
    clear h50
    go_wp2_with fail
    exact ⟨HX.out,by simp only [intOf];omega⟩
end Go.Proofs.YtmklemelgdilkaaGreatDoor
namespace Go.Proofs.YtmklemelgdilkaaGreatDoor
set_option linter.all false
attribute [local irreducible] Calls
open Go.RowKit

def grRel (n:Nat) (W0:World) (nv iv:Value) (wr:World):Prop:=∃ (k:Nat) (z:Int),iv=.int .i64 (k:Int)∧nv=.int .i64 z∧k≤n∧Below W0.heap.size W0 wr
set_option maxRecDepth 100000 in
set_option maxHeartbeats 16000000 in
theorem ref_Great (rs:List RuleX) (hs:∀ x∈rs,SmallR x.1) (hn:rs.length≤1048576) (vr:Value) (most:Int) (w:World) (hr:RulesIn w vr rs) :
  Calls Tryz.prog 13 #[vr,.int .i64 most] w (AnyBool w):=by
 obtain ⟨ar,cr,rfl,hcr⟩:=hr.shape
 have HQ:RowKit.Hid (∀ z w',Below w.heap.size w w'→AnyBool w (.returned (.bool z)) w'):=Hd fun z w' hb=>AnyBool.mk z hb
 generalize AnyBool w=Q at *
 have HS:=Hd hs
 have HR:=Hd hr
 clear hr hs
 go_enter Tryz.func13,Tryz.ntmps13
 go_wp2_with fail
 go_loopw [5,6] (fun nv iv wr=>grRel rs.length w nv iv wr) (fun _ iv _=>rs.length-(intOf iv).toNat)
 case atStart=>exact ⟨0,0,rfl,rfl,Nat.zero_le _,Below.refl _ _⟩
 case round =>
  obtain ⟨k,z,rfl,rfl,hk,hb⟩:=hrel
  have HB:=Hd hb
  clear hb
  by_cases hlt:k<rs.length
  case neg =>
   obtain rfl:k=rs.length:=by omega
   have HX:=Hd (fun x=>HQ.out x wr HB.out)
   go_wp2_with fail
   exact HX.out _
  by_cases hz:z≤most
  case neg =>
   have hkl:(k:Int)<rs.length:=by omega
   have HX:=Hd (fun x=>HQ.out x wr HB.out)
   go_wp2_with fail
   exact HX.out _
  have hk0:(0:Int)≤(k:Int):=by omega
  have hkl:(k:Int)<rs.length:=by omega
  have hkc:(k:Int)<cr:=by omega
  have hin:=HR.out.E _ (List.getElem_mem hlt)
  have hsm:=HS.out _ (List.getElem_mem hlt)
  obtain ⟨b,off,rfl,_,_,hbl,hcell⟩:=HR.out.at HB.out (show 0<rs.length by omega)
  have hc:=hcell k hlt
  have HC:RowKit.Hid (∀ W,Below w.heap.size w W→W.cell? ⟨b,off+k*5,none⟩=some (.string (rs[k]).1.nm)∧W.cell? ⟨b,off+k*5+2,none⟩=some (rs[k]).2.1∧W.cell? ⟨b,off+k*5+3,none⟩=some (rs[k]).2.2.1∧W.cell? ⟨b,off+k*5+4,none⟩=some (rs[k]).2.2.2):=Hd fun W hW=>by
   obtain ⟨b',off',e,_,_,_,hc2⟩:=HR.out.at hW (show 0<rs.length by omega)
   cases e
   obtain ⟨c0,_,c2,c3,c4⟩:=hc2 k hlt
   exact ⟨c0,c2,c3,c4⟩
  clear hcell hc
  generalize rs[k]=x at *
  obtain ⟨r,vh,vf,vb⟩:=x
  simp only [] at hin hsm HC
  obtain ⟨ah,ch,rfl,hch⟩:=Row.shape hin.H
  obtain ⟨af,cf,rfl,hcf⟩:=hin.F.slice
  obtain ⟨ab,cb,rfl,hcb⟩:=hin.B.slice
  have HIN:=Hd hin
  have HSM:=Hd hsm
  have hlh:=hsm.h.1
  have hlf:=hsm.f.1
  have hlb:=hsm.b.1
  have hln:=hsm.n
  clear hin hsm
  obtain ⟨c0,c2,c3,c4⟩:=HC.out _ HB.out
  go_upto_region 5 with (fail)
  go_quiet (fail)
  have HB1:=Hd (drewB HB.out nq)
  clear c0 c2 c3 c4
  generalize wr.drewN nq=w1 at *
  go_wp2_with fail
  go_loopw [5,7] (fun nv iv wr=>grRel r.holes.length w nv iv wr) (fun _ iv _=>r.holes.length-(intOf iv).toNat)
  case atStart=>exact ⟨0,_,rfl,rfl,Nat.zero_le _,HB1.out⟩
  case round =>
   obtain ⟨j1,z1,rfl,rfl,hj1,hb1⟩:=hrel
   have HBX:=Hd hb1
   clear hb1
   obtain ⟨c0,c2,c3,c4⟩:=HC.out _ HBX.out
   by_cases hlt1:j1<r.holes.length
   ·by_cases hzz:z1≤most
    ·have hq0:(0:Int)≤(j1:Int):=by omega
     have hql:(j1:Int)<r.holes.length:=by omega
     have hqc:(j1:Int)<ch:=by omega
     obtain ⟨b1,o1,rfl,_,_,_,hcc⟩:=HIN.out.H.at HBX.out (show 0<r.holes.length by omega)
     have hd:=hcc j1 hlt1
     have hsz:=HSM.out.h.2 _ (List.getElem_mem hlt1)
     generalize (r.holes[j1])=y at *
     obtain ⟨yn,yk⟩:=y
     simp only [] at hd hsz
     obtain ⟨d0,d1⟩:=hd
     obtain ⟨s0,s1⟩:=hsz
     clear hcc
     go_wp2_with fail
     all_goals exact ⟨⟨j1+1,_,by push_cast;rfl,rfl,hlt1,HBX.out⟩,by simp only [intOf];omega⟩
    ·have hql:(j1:Int)<r.holes.length:=by omega
     go_wp2_with fail
     go_loopw [5,8] (fun nv iv wr=>grRel r.fnd.length w nv iv wr) (fun _ iv _=>r.fnd.length-(intOf iv).toNat)
     case atStart=>exact ⟨0,_,rfl,rfl,Nat.zero_le _,HBX.out⟩
     case round =>
      obtain ⟨j2,z2,rfl,rfl,hj2,hb2⟩:=hrel
      have HBX:=Hd hb2
      clear hb2
      obtain ⟨c0,c2,c3,c4⟩:=HC.out _ HBX.out
      by_cases hlt2:j2<r.fnd.length
      ·by_cases hzz:z2≤most
       ·have hq0:(0:Int)≤(j2:Int):=by omega
        have hql:(j2:Int)<r.fnd.length:=by omega
        have hqc:(j2:Int)<cf:=by omega
        obtain ⟨b2,o2,rfl,_,_,_,hcc⟩:=HIN.out.F.at HBX.out (show 0<r.fnd.length by omega)
        have hd:=hcc j2 hlt2
        have hsz:=HSM.out.f.2 _ (List.getElem_mem hlt2)
        generalize (r.fnd[j2])=y at *
        obtain ⟨yk,yn,yw⟩:=y
        simp only [] at hd hsz
        obtain ⟨d0,d1,d2⟩:=hd
        obtain ⟨s0,s1⟩:=hsz
        clear hcc
        go_wp2_with fail
        all_goals exact ⟨⟨j2+1,_,by push_cast;rfl,rfl,hlt2,HBX.out⟩,by simp only [intOf];omega⟩
       ·have hql:(j2:Int)<r.fnd.length:=by omega
        go_wp2_with fail
        go_loopw [5,9] (fun nv iv wr=>grRel r.by'.length w nv iv wr) (fun _ iv _=>r.by'.length-(intOf iv).toNat)
        case atStart=>exact ⟨0,_,rfl,rfl,Nat.zero_le _,HBX.out⟩
        case round =>
         obtain ⟨j3,z3,rfl,rfl,hj3,hb3⟩:=hrel
         have HBX:=Hd hb3
         clear hb3
         obtain ⟨c0,c2,c3,c4⟩:=HC.out _ HBX.out
         by_cases hlt3:j3<r.by'.length
         ·by_cases hzz:z3≤most
          ·have hq0:(0:Int)≤(j3:Int):=by omega
           have hql:(j3:Int)<r.by'.length:=by omega
           have hqc:(j3:Int)<cb:=by omega
           obtain ⟨b3,o3,rfl,_,_,_,hcc⟩:=HIN.out.B.at HBX.out (show 0<r.by'.length by omega)
           have hd:=hcc j3 hlt3
           have hsz:=HSM.out.b.2 _ (List.getElem_mem hlt3)
           generalize (r.by'[j3])=y at *
           obtain ⟨yk,yn,yw⟩:=y
           simp only [] at hd hsz
           obtain ⟨d0,d1,d2⟩:=hd
           obtain ⟨s0,s1⟩:=hsz
           clear hcc
           go_wp2_with fail
           all_goals exact ⟨⟨j3+1,_,by push_cast;rfl,rfl,hlt3,HBX.out⟩,by simp only [intOf];omega⟩
          ·have hql:(j3:Int)<r.by'.length:=by omega
           go_wp2_with fail
           exact ⟨⟨k+1,_,by push_cast;rfl,rfl,hlt,HBX.out⟩,by simp only [intOf];omega⟩
         ·obtain rfl:j3=r.by'.length:=by omega
          go_wp2_with fail
          exact ⟨⟨k+1,_,by push_cast;rfl,rfl,hlt,HBX.out⟩,by simp only [intOf];omega⟩
      ·obtain rfl:j2=r.fnd.length:=by omega
       go_wp2_with fail
       go_loopw [5,9] (fun nv iv wr=>grRel r.by'.length w nv iv wr) (fun _ iv _=>r.by'.length-(intOf iv).toNat)
       case atStart=>exact ⟨0,_,rfl,rfl,Nat.zero_le _,HBX.out⟩
       case round =>
        obtain ⟨j3,z3,rfl,rfl,hj3,hb3⟩:=hrel
        have HBX:=Hd hb3
        clear hb3
        obtain ⟨c0,c2,c3,c4⟩:=HC.out _ HBX.out
        by_cases hlt3:j3<r.by'.length
        ·by_cases hzz:z3≤most
         ·have hq0:(0:Int)≤(j3:Int):=by omega
          have hql:(j3:Int)<r.by'.length:=by omega
          have hqc:(j3:Int)<cb:=by omega
          obtain ⟨b3,o3,rfl,_,_,_,hcc⟩:=HIN.out.B.at HBX.out (show 0<r.by'.length by omega)
          have hd:=hcc j3 hlt3
          have hsz:=HSM.out.b.2 _ (List.getElem_mem hlt3)
          generalize (r.by'[j3])=y at *
          obtain ⟨yk,yn,yw⟩:=y
          simp only [] at hd hsz
          obtain ⟨d0,d1,d2⟩:=hd
          obtain ⟨s0,s1⟩:=hsz
          clear hcc
          go_wp2_with fail
          all_goals exact ⟨⟨j3+1,_,by push_cast;rfl,rfl,hlt3,HBX.out⟩,by simp only [intOf];omega⟩
         ·have hql:(j3:Int)<r.by'.length:=by omega
          go_wp2_with fail
          exact ⟨⟨k+1,_,by push_cast;rfl,rfl,hlt,HBX.out⟩,by simp only [intOf];omega⟩
        ·obtain rfl:j3=r.by'.length:=by omega
         go_wp2_with fail
         exact ⟨⟨k+1,_,by push_cast;rfl,rfl,hlt,HBX.out⟩,by simp only [intOf];omega⟩
   ·obtain rfl:j1=r.holes.length:=by omega
    go_wp2_with fail
    go_loopw [5,8] (fun nv iv wr=>grRel r.fnd.length w nv iv wr) (fun _ iv _=>r.fnd.length-(intOf iv).toNat)
    case atStart=>exact ⟨0,_,rfl,rfl,Nat.zero_le _,HBX.out⟩
    case round =>
     obtain ⟨j2,z2,rfl,rfl,hj2,hb2⟩:=hrel
     have HBX:=Hd hb2
     clear hb2
     obtain ⟨c0,c2,c3,c4⟩:=HC.out _ HBX.out
     by_cases hlt2:j2<r.fnd.length
     ·by_cases hzz:z2≤most
      ·have hq0:(0:Int)≤(j2:Int):=by omega
       have hql:(j2:Int)<r.fnd.length:=by omega
       have hqc:(j2:Int)<cf:=by omega
       obtain ⟨b2,o2,rfl,_,_,_,hcc⟩:=HIN.out.F.at HBX.out (show 0<r.fnd.length by omega)
       have hd:=hcc j2 hlt2
       have hsz:=HSM.out.f.2 _ (List.getElem_mem hlt2)
       generalize (r.fnd[j2])=y at *
       obtain ⟨yk,yn,yw⟩:=y
       simp only [] at hd hsz
       obtain ⟨d0,d1,d2⟩:=hd
       obtain ⟨s0,s1⟩:=hsz
       clear hcc
       go_wp2_with fail
       all_goals exact ⟨⟨j2+1,_,by push_cast;rfl,rfl,hlt2,HBX.out⟩,by simp only [intOf];omega⟩
      ·have hql:(j2:Int)<r.fnd.length:=by omega
       go_wp2_with fail
       go_loopw [5,9] (fun nv iv wr=>grRel r.by'.length w nv iv wr) (fun _ iv _=>r.by'.length-(intOf iv).toNat)
       case atStart=>exact ⟨0,_,rfl,rfl,Nat.zero_le _,HBX.out⟩
       case round =>
        obtain ⟨j3,z3,rfl,rfl,hj3,hb3⟩:=hrel
        have HBX:=Hd hb3
        clear hb3
        obtain ⟨c0,c2,c3,c4⟩:=HC.out _ HBX.out
        by_cases hlt3:j3<r.by'.length
        ·by_cases hzz:z3≤most
         ·have hq0:(0:Int)≤(j3:Int):=by omega
          have hql:(j3:Int)<r.by'.length:=by omega
          have hqc:(j3:Int)<cb:=by omega
          obtain ⟨b3,o3,rfl,_,_,_,hcc⟩:=HIN.out.B.at HBX.out (show 0<r.by'.length by omega)
          have hd:=hcc j3 hlt3
          have hsz:=HSM.out.b.2 _ (List.getElem_mem hlt3)
          generalize (r.by'[j3])=y at *
          obtain ⟨yk,yn,yw⟩:=y
          simp only [] at hd hsz
          obtain ⟨d0,d1,d2⟩:=hd
          obtain ⟨s0,s1⟩:=hsz
          clear hcc
          go_wp2_with fail
          all_goals exact ⟨⟨j3+1,_,by push_cast;rfl,rfl,hlt3,HBX.out⟩,by simp only [intOf];omega⟩
         ·have hql:(j3:Int)<r.by'.length:=by omega
          go_wp2_with fail
          exact ⟨⟨k+1,_,by push_cast;rfl,rfl,hlt,HBX.out⟩,by simp only [intOf];omega⟩
        ·obtain rfl:j3=r.by'.length:=by omega
         go_wp2_with fail
         exact ⟨⟨k+1,_,by push_cast;rfl,rfl,hlt,HBX.out⟩,by simp only [intOf];omega⟩
     ·obtain rfl:j2=r.fnd.length:=by omega
      go_wp2_with fail
      go_loopw [5,9] (fun nv iv wr=>grRel r.by'.length w nv iv wr) (fun _ iv _=>r.by'.length-(intOf iv).toNat)
      case atStart=>exact ⟨0,_,rfl,rfl,Nat.zero_le _,HBX.out⟩
      case round =>
       obtain ⟨j3,z3,rfl,rfl,hj3,hb3⟩:=hrel
       have HBX:=Hd hb3
       clear hb3
       obtain ⟨c0,c2,c3,c4⟩:=HC.out _ HBX.out
       by_cases hlt3:j3<r.by'.length
       ·by_cases hzz:z3≤most
        ·have hq0:(0:Int)≤(j3:Int):=by omega
         have hql:(j3:Int)<r.by'.length:=by omega
         have hqc:(j3:Int)<cb:=by omega
         obtain ⟨b3,o3,rfl,_,_,_,hcc⟩:=HIN.out.B.at HBX.out (show 0<r.by'.length by omega)
         have hd:=hcc j3 hlt3
         have hsz:=HSM.out.b.2 _ (List.getElem_mem hlt3)
         generalize (r.by'[j3])=y at *
         obtain ⟨yk,yn,yw⟩:=y
         simp only [] at hd hsz
         obtain ⟨d0,d1,d2⟩:=hd
         obtain ⟨s0,s1⟩:=hsz
         clear hcc
         go_wp2_with fail
         all_goals exact ⟨⟨j3+1,_,by push_cast;rfl,rfl,hlt3,HBX.out⟩,by simp only [intOf];omega⟩
        ·have hql:(j3:Int)<r.by'.length:=by omega
         go_wp2_with fail
         exact ⟨⟨k+1,_,by push_cast;rfl,rfl,hlt,HBX.out⟩,by simp only [intOf];omega⟩
       ·obtain rfl:j3=r.by'.length:=by omega
        go_wp2_with fail
        exact ⟨⟨k+1,_,by push_cast;rfl,rfl,hlt,HBX.out⟩,by simp only [intOf];omega⟩
end Go.Proofs.YtmklemelgdilkaaGreatDoor
