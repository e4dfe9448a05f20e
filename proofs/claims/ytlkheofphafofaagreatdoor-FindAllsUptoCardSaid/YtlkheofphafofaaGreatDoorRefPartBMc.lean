/- Layer 17, the reference: part where no hole stands, walked. -/
import Derived.Test.YtlkheofphafofaaGreatDoorRefBindMc
import Derived.Test.YtlkheofphafofaaGreatDoorRuleVMc
import Derived.BigQuiet
import Derived.Deep.QuietTactic
namespace Go.Proofs.YtlkheofphafofaaGreatDoor
set_option linter.all false
attribute [local irreducible] Calls
attribute [local irreducible] wpStill
open Go.RowKit

def wkRel (E:WyE) (n q:Nat) (kp:Nat→Nat) (pend stop:Nat) (T:Option MSt) (w8:World) (av nv:Value) (wr:World):Prop :=
 ∃ (c a N:Nat) (σ:MSt),nv=.int .i64 (c:Int)∧av=.int .i64 (a:Int)∧c≤q∧a≤E.k.l.length∧fKids E.k.f E.k.l E.k.hs (LF E) N (kp c) pend a stop σ=T∧2*(pend-kp c)+1≤N∧N≤n∧WyIn E σ wr∧KeptX E.k w8 wr
def waRel (E:WyE) (Lh a0 stop:Nat) (O:Option Nat) (wr0:World) (av kv:Value) (wr:World):Prop :=
 ∃ (j a:Nat),kv=.int .i64 (j:Int)∧av=.int .i64 (a:Int)∧j≤Lh∧a0≤a∧a≤E.k.l.length∧advT E.k.l (Lh-j) a stop=O∧wr=wr0
theorem alike_tells {f l:List Prt} {p i:Nat} (hp:p<f.length) (hi:i<l.length):alikeP f l p i=((f[p]).1 == (l[i]).1&&decide ((f[p]).2.2=(l[i]).2.2)):=by
 unfold alikeP
 rw [List.getElem?_eq_getElem hp,List.getElem?_eq_getElem hi]
set_option maxRecDepth 100000 in
set_option maxHeartbeats 32000000 in
theorem wy_part_none (E:WyE) (ok:WyOK E) (n:Nat) (ih:∀ m,m<n+1→WPartC E m) (w:World) (σ:MSt) (p i:Nat) (hi:WyIn E σ w) (hp:p<E.k.f.length) (hil:i<E.k.l.length) (hfuel:2*(endB E.k.f p-p)≤n+1) (hno:holeOf E.k.f E.k.hs p=none) :
  Calls Tryz.prog 42 #[.pointer (some ⟨E.k.g,0,none⟩),.int .i64 (p:Int),.int .i64 (i:Int)] w (wayPost E (fPart E.k.f E.k.l E.k.hs (LF E) (n+1) p i σ) w):=by
 have hho:=hno
 have hone:oneOf E.k.f E.k.hs p=none:=by unfold oneOf;rw [hho]
 rw [fp_else hone]
 obtain ⟨T,hT⟩:∃ T,(if alikeP E.k.f E.k.l p i=true then fKids E.k.f E.k.l E.k.hs (LF E) n (p+1) (endB E.k.f p) (i+1) (endB E.k.l i) σ else none)=T:=⟨_,rfl⟩
 rw [hT]
 have HQY:RowKit.Hid (∀ τ w',T=some τ→KeptX E.k w w'→WyIn E τ w'→wayPost E T w (.returned (.bool true)) w'):=Hd fun τ w' h1 h2 h3=>wayPost.yes h1 h2 h3
 have HQN:RowKit.Hid (∀ w',T=none→KeptX E.k w w'→wayPost E T w (.returned (.bool false)) w'):=Hd fun w' h1 h2=>wayPost.no h1 h2
 generalize wayPost E T w=Q at *
 have hfl:=ok.fl
 have hll:=ok.ll
 have hhn:=ok.hn
 have hgf:=endB_gt (well_rows ok.hf.well) hp
 have hgl:=endB_gt (well_rows ok.hl) hil
 obtain ⟨q,kp,KS⟩:=kid_seq (well_rows ok.hf.well) hp
 have C1:=Hd (ref_Hole E.k.f E.k.hs hfl hhn p hp _ _ w hi.st.now.f hi.st.now.h)
 rw [hho] at C1
 simp only [holeI] at C1
 have CHO:=Hd (fun W (hk:KeptX E.k w W) x (hx:x<E.k.f.length)=>ref_Hole E.k.f E.k.hs hfl hhn x hx _ _ W (hi.st W hk).f (hi.st W hk).h)
 have CE:=Hd (fun W (hk:KeptX E.k w W) x (hx:x<E.k.l.length)=>show Calls Tryz.prog 20 #[E.k.vl,.int .i64 (x:Int)] W fun e w'=>e=.returned (.int .i64 (endB E.k.l x:Int))∧W=w' by
  have:=ref_End11 E.k.l (by omega) _ x (by omega) W (hi.st W hk).l
  rw [endR_end (well_rows ok.hl) hx] at this
  exact this)
 have CKI:=Hd (fun W (hk:KeptX E.k w W)=>ref_KidsOwn E.k.f (by omega) _ (well_rows ok.hf.well) _ p hp W (hi.st W hk).f)
 have CBI:=Hd (fun W σ' (hs:WyIn E σ' W) h (hh:h<E.k.hs.length) a b (h1:a≤b) (h2:b≤E.k.l.length)=>wy_bind E ok W σ' hs h hh a b h1 h2)
 have CSV:=Hd (fun s k W=>ref_Several s k W)
 have HIH:=Hd ih
 have HOLE:=Hd (fun (hpos:0<E.k.hs.length)=>hi.st.holes hpos)
 have HNUM:=Hd (fun (hpos:0<E.ns.length)=>hi.st.nums hpos)
 obtain ⟨fb,fo,fc,hvf,hfc,HF⟩:=WyStat.parts (E:=E) (w:=w) (L:=E.k.f) (v:=E.k.vf) (fun w' hk=>(hi.st w' hk).f) (by omega)
 obtain ⟨lb,lo,lc,hvl,hlc,HL⟩:=WyStat.parts (E:=E) (w:=w) (L:=E.k.l) (v:=E.k.vl) (fun w' hk=>(hi.st w' hk).l) (by omega)
 obtain ⟨ha,hc,hvh,hhc⟩:=Row.shape hi.st.now.h
 have HC:RowKit.Hid (∀ W,KeptX E.k w W→W.cell? ⟨E.k.g,3,none⟩=some (.slice (some ⟨fb,fo,none⟩) E.k.f.length fc)∧W.cell? ⟨E.k.g,2,none⟩=some (.slice ha E.k.hs.length hc)∧W.cell? ⟨E.k.g,5,none⟩=some (.slice (some ⟨lb,lo,none⟩) E.k.l.length lc)∧W.cell? ⟨E.k.g,6,none⟩=some E.vn):=Hd fun W hk=>by
  have h:=(hi.st W hk).cells
  exact ⟨by rw [h.2.2.2.1,hvf],by rw [h.2.2.1,hvh],by rw [h.2.2.2.2.2.1,hvl],h.2.2.2.2.2.2.1⟩
 have HCF:RowKit.Hid (∀ W,KeptX E.k w W→W.cell? ⟨fb,fo+p*3,none⟩=some (.int .u8 ((E.k.f[p]).1:Int))∧W.cell? ⟨fb,fo+p*3+2,none⟩=some (.string (E.k.f[p]).2.2)):=Hd fun W hk=>⟨(HF W hk p hp).1,(HF W hk p hp).2.2⟩
 have HCL:RowKit.Hid (∀ W,KeptX E.k w W→W.cell? ⟨lb,lo+i*3,none⟩=some (.int .u8 ((E.k.l[i]).1:Int))∧W.cell? ⟨lb,lo+i*3+2,none⟩=some (.string (E.k.l[i]).2.2)):=Hd fun W hk=>⟨(HL W hk i hil).1,(HL W hk i hil).2.2⟩
 have HC0:RowKit.Hid (∀ W,KeptX E.k w W→W.cell? ⟨E.k.g,2,none⟩=some E.vh):=Hd fun W hk=>(hi.st W hk).cells.2.2.1
 have HI:=Hd hi
 have HOK:=Hd ok
 have HKS:=Hd KS
 have HT:=Hd hT
 have HFU:=Hd hfuel
 rw [alike_tells hp hil] at HT
 have hp0:(0:Int)≤(p:Int):=by omega
 have hpl:(p:Int)<E.k.f.length:=by omega
 have hpc:(p:Int)<(fc:Int):=by omega
 have hi0:(0:Int)≤(i:Int):=by omega
 have hill:(i:Int)<E.k.l.length:=by omega
 have hilc:(i:Int)<(lc:Int):=by omega
 obtain ⟨c3,c2,c5,c6⟩:=HC.out w (KeptX.refl _ _)
 rw [hvf,hvh] at C1
 rw [hvf,hvh] at CHO
 rw [hvf] at CKI
 rw [hvl] at CE
 clear hi ok ih hone hT KS hfuel hvf hvl HF HL
 generalize E.k.f[p]=pf at *
 generalize E.k.l[i]=pl at *
 obtain ⟨f1,f2,f3⟩:=pf
 obtain ⟨l1,l2,l3⟩:=pl
 simp only [] at HCF HCL HT
 go_enter Tryz.func42,Tryz.ntmps42
 go_wp2_with fail
 refine C1.out.mono ?_
 rintro e w1 ⟨rfl,hb1⟩
 have HB1:=Hd hb1
 clear hb1 C1 c2 c3 c5 c6
 obtain ⟨w2,rfl⟩:∃ w2,w2=w1:=⟨_,rfl⟩
 have HB2:=Hd HB1.out
 clear HB1
 go_upto_region 5 with (fail)
 have HKD:RowKit.Hid (KeptX E.k w w2.drew):=Hd (KeptX.of_below HB2.out.drew)
 have HBD:RowKit.Hid (Below w.heap.size w w2.drew):=Hd HB2.out.drew
 have HK2:RowKit.Hid (KeptX E.k w w2):=Hd (KeptX.of_below HB2.out)
 obtain ⟨c3,c2,c5,c6⟩:=HC.out w2 HK2.out
 obtain ⟨x0,x2⟩:=HCF.out w2 HK2.out
 obtain ⟨y0,y2⟩:=HCL.out w2 HK2.out
 by_cases hk:f1=l1
 case neg =>
  have hTN:T=none:=by rw [← HT.out,if_neg (by simp [hk])]
  have g1:((f1:Int) != (l1:Int))=true:=by rw [bne_iff_ne];omega
  have HX:=Hd (fun nq=>HQN.out (w2.drewN (nq+1)) hTN (HK2.out.trans (KeptX.drewN E.k w2 (nq+1))))
  have HX2:=Hd (HQN.out w2.drew hTN HKD.out)
  have HX3:=Hd (fun nq=>HQN.out (w2.drewN nq) hTN (HK2.out.trans (KeptX.drewN E.k w2 nq)))
  clear hk hTN
  go_quiet (fail)
  go_wp2_with fail
  first | exact HX.out _ | exact HX2.out | exact HX3.out _
 subst hk
 by_cases hw:f3=l3
 case neg =>
  have hTN:T=none:=by rw [← HT.out,if_neg (by simp [hw])]
  have g1:((f1:Int) != (f1:Int))=false:=by rw [bne_eq_false_iff_eq]
  have g2:(f3.toList == l3.toList)=false:=by rw [beq_eq_false_iff_ne];exact pl_bytes_ne hw
  have g3:(f3.toList != l3.toList)=true:=by rw [bne_iff_ne];exact pl_bytes_ne hw
  have HX:=Hd (fun nq=>HQN.out (w2.drewN (nq+1)) hTN (HK2.out.trans (KeptX.drewN E.k w2 (nq+1))))
  have HX2:=Hd (HQN.out w2.drew hTN HKD.out)
  have HX3:=Hd (fun nq=>HQN.out (w2.drewN nq) hTN (HK2.out.trans (KeptX.drewN E.k w2 nq)))
  clear hw hTN
  go_quiet (fail)
  go_wp2_with fail
  first | exact HX.out _ | exact HX2.out | exact HX3.out _
 subst hw
 have hTT:=HT.out
 rw [if_pos (by simp)] at hTT
 have HT2:=Hd hTT
 clear hTT HT
 have g1:((f1:Int) != (f1:Int))=false:=by rw [bne_eq_false_iff_eq]
 go_quiet (fail)
 have HB3:RowKit.Hid (Below w.heap.size w (w2.drewN nq)):=Hd (drewB HB2.out nq)
 clear x0 x2 y0 y2 c3 c2 c5 c6 g1 HKD HBD HK2 HCF HCL
 generalize w2.drewN nq=w3 at *
 have HK3:RowKit.Hid (KeptX E.k w w3):=Hd (KeptX.of_below HB3.out)
 obtain ⟨c3,c2,c5,c6⟩:=HC.out w3 HK3.out
 have CE1:=Hd (CE.out w3 HK3.out i hil)
 have CK1:=Hd (CKI.out w3 HK3.out)
 go_wp2_with fail
 refine CE1.out.mono ?_
 rintro e w4 ⟨rfl,rfl⟩
 clear CE1
 go_wp2_with fail
 refine CK1.out.mono ?_
 intro e w5 h5
 unfold kidsOwn at h5
 obtain ⟨kv,rfl,hb5,ho5⟩:=h5
 rw [HKS.out.len] at ho5
 obtain ⟨ka,kc,rfl,hkc⟩:=Row.shape (Row.of_owns ho5)
 have HB5:=Hd (bthen HB3.out hb5)
 have HKC:RowKit.Hid (∀ W,KeptX E.k w5 W→∀ c,c<q→∃ g,ka=some ⟨g,0,none⟩∧W.cell? ⟨g,c,none⟩=some (.int .i64 (kp c:Int))):=Hd fun W hW c hc=>by
  rcases ho5.2 with ⟨_,h0⟩ | ⟨g,cap,cur,hv,hg,hh,hnc,_,hcs,htk⟩
  ·omega
  ·simp only [Value.slice.injEq] at hv
   obtain ⟨rfl,_,rfl⟩:=hv
   refine ⟨g,rfl,?_⟩
   have hgl:=keeps_lt hh
   have h1:∀ v:Value,w.heap.size≤g→(∀ k,v.ownBlock=some k→k<w.heap.size)→some g≠v.ownBlock:=fun v h1 h2 e=>by have:=h2 g e.symm;omega
   have h2:w.heap.size≤g:=Nat.le_trans HB3.out.size hg
   rw [hW.cell hgl (h1 _ h2 (fun k hk=>(HI.out.b.lt k hk).2)) (h1 _ h2 (fun k hk=>(HI.out.z.lt k hk).2))]
   rw [ho5.cellAt _ (by omega)]
   unfold natV
   rw [List.getElem?_map,HKS.out.get c hc];rfl
 clear hb5 ho5 CK1 c3 c2 c5 c6
 have hqn:=HKS.out.n
 go_wp2_with fail
 go_loopw [10,12] (fun av nv wr=>wkRel E n q kp (endB E.k.f p) (endB E.k.l i) T w5 av nv wr) (fun _ nv _=>q-(intOf nv).toNat)
 case atStart=>exact ⟨0,i+1,n,σ,rfl,by push_cast;rfl,Nat.zero_le _,by omega,by rw [HKS.out.z];exact HT2.out,by rw [HKS.out.z];have:=HFU.out;omega,Nat.le_refl _,HI.out.below HB5.out,KeptX.refl _ _⟩
 case round =>
  obtain ⟨c,a,N,σ1,rfl,rfl,hc,ha,hfk,hN,hNn,hi1,hk1⟩:=hrel
  have HI1:=Hd hi1
  have HK5:=Hd hk1
  have HKW:RowKit.Hid (KeptX E.k w wr):=Hd ((KeptX.of_below HB5.out).trans hk1)
  have HFK:=Hd hfk
  obtain ⟨M,rfl⟩:∃ M,N=M+1:=⟨N-1,by omega⟩
  have HFN:=Hd hN
  have HNN:=Hd hNn
  have hwc:IntKind.i64.wrap ((c:Int)+1)=(c:Int)+1:=by rw [IntKind.wrap_i64];omega
  clear hi1 hk1 hfk hN hNn
  by_cases hlt:c<q
  ·obtain ⟨gk,rfl,k0⟩:=HKC.out wr HK5.out c hlt
   obtain ⟨c3,c2,c5,c6⟩:=HC.out wr HKW.out
   have hx:=HKS.out.lt c hlt
   have hci:(c:Int)<q:=by omega
   have hc0:(0:Int)≤(c:Int):=by omega
   have hcc:(c:Int)<(kc:Int):=by omega
   have HNE:RowKit.Hid (kp c≠endB E.k.f p):=Hd (by have:=HKS.out.up c hlt;have:=HKS.out.le (c+1) hlt;omega)
   have HNX:=Hd (HKS.out.nx c hlt)
   have HFU2:RowKit.Hid (2*(endB E.k.f p-kp (c+1))+1≤M∧2*(endB E.k.f (kp c)-kp c)≤M):=Hd (by
    have h1:=HKS.out.up c hlt;have h2:=HKS.out.le (c+1) hlt;have h3:=HFN.out
    rw [HKS.out.nx c hlt];omega)
   have CH1:=Hd (CHO.out wr.drew (HKW.out.trans (KeptX.drew _ _)) (kp c) hx)
   go_upto_region 13 with (fail)
   go_still_tail 10,(by kernel_rfl)
   go_wp2_with fail
   refine CH1.out.mono ?_
   rintro e w6 ⟨rfl,hb6⟩
   have HB6:RowKit.Hid (Below wr.heap.size wr w6):=Hd (bthen (Below.refl _ _).drew hb6)
   clear hb6 CH1 c3 c2 c5 c6 k0
   have HMS:RowKit.Hid (q-(c+1)<q-c):=Hd (by omega)
   rcases hole_parts E.k.f E.k.hs (kp c) with ⟨h,h1,h2,h3⟩ | ⟨h,h1,h2,h3⟩ | ⟨h1,h2,h3⟩
   ·have hh:=hole_lt E.k.f E.k.hs h2
    obtain ⟨qb,qo,qc,qv,hqc,hqcell⟩:=HOLE.out (by omega)
    have HKW6:RowKit.Hid (KeptX E.k w w6):=Hd (HKW.out.trans (KeptX.of_below HB6.out))
    have hcc:=HC.out w6 HKW6.out
    have c3:=hcc.1
    have c5:=hcc.2.2.1
    have c6:=hcc.2.2.2
    clear hcc
    obtain ⟨d0,d1⟩:=hqcell w6 HKW6.out h hh
    have c2:w6.cell? ⟨E.k.g,2,none⟩=some (.slice (some ⟨qb,qo,none⟩) E.k.hs.length qc):=by rw [← qv];exact HC0.out w6 HKW6.out
    have hhk:(h:Int)<(qc:Int):=by omega
    rw [hvh] at qv
    simp only [Value.slice.injEq,Option.some.injEq,Addr.mk.injEq,and_true,true_and] at qv
    obtain ⟨rfl,rfl⟩:=qv
    have CS1:=Hd (CSV.out (E.k.hs[h]).1 (E.k.hs[h]).2 w6)
    have hk1:hkind E.k.hs h=(E.k.hs[h]).2:=by unfold hkind;rw [List.getElem?_eq_getElem hh]
    have hh0:(0:Int)≤(h:Int):=by omega
    have hn0:¬ (h:Int)<0:=by omega
    have hhl:(h:Int)<E.k.hs.length:=by omega
    have hsv2:=(oneOf_one E.k.f E.k.hs h1).1
    rw [hk1] at hsv2
    rw [hsv2] at CS1
    clear hsv2 hk1
    clear hqcell
    rw [h2]
    simp only [holeI]
    generalize (E.k.hs[h]).2=xk2 at *
    generalize (E.k.hs[h]).1=xn2 at *
    go_wp2_with fail
    refine CS1.out.mono ?_
    rintro e w7 ⟨rfl,hb7⟩
    clear CS1 c2 c3 c5 c6 d0 d1
    have HB7:=Hd (bthen HB6.out hb7)
    have HI7:=Hd (HI1.out.below HB7.out)
    have HK57:RowKit.Hid (KeptX E.k w5 w7):=Hd (HK5.out.trans (KeptX.of_below HB7.out))
    have HK7:RowKit.Hid (KeptX E.k w w7):=Hd (HKW.out.trans (KeptX.of_below HB7.out))
    clear hb7
    have hfo:=HFK.out
    rw [fk_one HNE.out h3] at hfo
    by_cases has:a<endB E.k.l i
    case neg =>
     rw [if_neg has] at hfo
     have HX:=Hd (HQN.out w7 hfo.symm HK7.out)
     have hai:¬ (a:Int)<(endB E.k.l i:Int):=by omega
     have hai2:(endB E.k.l i:Int)≤(a:Int):=by omega
     clear hfo has
     go_wp2_with fail
     exact HX.out
    rw [if_pos has] at hfo
    have hal:a<E.k.l.length:=by omega
    have CP:=Hd (HIH.out M (by have:=HNN.out;omega) w7 σ1 (kp c) a HI7.out hx hal HFU2.out.2)
    obtain ⟨gk',hgk',k0⟩:=HKC.out w7 HK57.out c hlt
    obtain rfl:gk=gk':=by simpa using hgk'
    have hai:(a:Int)<(endB E.k.l i:Int):=by omega
    have hai2:¬ (endB E.k.l i:Int)≤(a:Int):=by omega
    have HFO:=Hd hfo
    have HAE:=Hd (endB_gt (well_rows HOK.out.hl) hal).2
    clear hfo has hgk'
    go_wp2_with fail
    refine CP.out.mono ?_
    intro e w8 h8
    obtain ⟨hk8,⟨τ,hτ,rfl,hi8⟩ | ⟨hτ,rfl⟩⟩:=h8.out
    ·have hfo:=HFO.out
     rw [hτ,Option.bind_some,HNX.out] at hfo
     have HK8:RowKit.Hid (KeptX E.k w w8):=Hd (HK7.out.trans hk8)
     have HX:RowKit.Hid (wkRel E n q kp (endB E.k.f p) (endB E.k.l i) T w5 (.int .i64 (endB E.k.l a:Int)) (.int .i64 ((c:Int)+1)) w8):=Hd ⟨c+1,endB E.k.l a,M,τ,by push_cast;rfl,rfl,hlt,HAE.out,hfo,HFU2.out.1,by have:=HNN.out;omega,hi8,HK57.out.trans hk8⟩
     have CE2:=Hd (CE.out w8 HK8.out a hal)
     obtain ⟨c3,c2,c5,c6⟩:=HC.out w8 HK8.out
     clear hfo hk8 hi8 hτ h8 CP k0
     go_wp2_with fail
     refine CE2.out.mono ?_
     rintro e w9 ⟨rfl,rfl⟩
     go_wp2_with fail
     exact ⟨HX.out,by have:=HMS.out;simp only [intOf];omega⟩
    ·have hfo:=HFO.out
     rw [hτ,Option.bind_none] at hfo
     have HX:=Hd (HQN.out w8 hfo.symm (HK7.out.trans hk8))
     clear hfo hk8 hτ h8 CP k0
     go_wp2_with fail
     exact HX.out
   ·have hh:=hole_lt E.k.f E.k.hs h2
    obtain ⟨qb,qo,qc,qv,hqc,hqcell⟩:=HOLE.out (by omega)
    have HKW6:RowKit.Hid (KeptX E.k w w6):=Hd (HKW.out.trans (KeptX.of_below HB6.out))
    have hcc:=HC.out w6 HKW6.out
    have c3:=hcc.1
    have c5:=hcc.2.2.1
    have c6:=hcc.2.2.2
    clear hcc
    obtain ⟨d0,d1⟩:=hqcell w6 HKW6.out h hh
    have c2:w6.cell? ⟨E.k.g,2,none⟩=some (.slice (some ⟨qb,qo,none⟩) E.k.hs.length qc):=by rw [← qv];exact HC0.out w6 HKW6.out
    have hhk:(h:Int)<(qc:Int):=by omega
    rw [hvh] at qv
    simp only [Value.slice.injEq,Option.some.injEq,Addr.mk.injEq,and_true,true_and] at qv
    obtain ⟨rfl,rfl⟩:=qv
    have CS1:=Hd (CSV.out (E.k.hs[h]).1 (E.k.hs[h]).2 w6)
    have hk1:hkind E.k.hs h=(E.k.hs[h]).2:=by unfold hkind;rw [List.getElem?_eq_getElem hh]
    have hh0:(0:Int)≤(h:Int):=by omega
    have hn0:¬ (h:Int)<0:=by omega
    have hhl:(h:Int)<E.k.hs.length:=by omega
    have hsv2:=(sevOf_sev E.k.f E.k.hs h1).1
    rw [hk1] at hsv2
    rw [hsv2] at CS1
    clear hsv2 hk1
    clear hqcell
    rw [h2]
    simp only [holeI]
    generalize (E.k.hs[h]).2=xk2 at *
    generalize (E.k.hs[h]).1=xn2 at *
    go_wp2_with fail
    refine CS1.out.mono ?_
    rintro e w7 ⟨rfl,hb7⟩
    clear CS1 c2 c3 c5 c6 d0 d1
    have HB7:=Hd (bthen HB6.out hb7)
    have HI7:=Hd (HI1.out.below HB7.out)
    have HK57:RowKit.Hid (KeptX E.k w5 w7):=Hd (HK5.out.trans (KeptX.of_below HB7.out))
    have HK7:RowKit.Hid (KeptX E.k w w7):=Hd (HKW.out.trans (KeptX.of_below HB7.out))
    clear hb7
    have hfo:=HFK.out
    rw [fk_sev HNE.out h1] at hfo
    have hLF:LF E h=E.ns[h]'(by rw [HOK.out.nl];exact hh):=by unfold LF;rw [List.getD_eq_getElem?_getD,List.getElem?_eq_getElem (by rw [HOK.out.nl];exact hh)];rfl
    have hLb:=HOK.out.nb _ (List.getElem_mem (show h<E.ns.length by rw [HOK.out.nl];exact hh))
    obtain ⟨nb,no,nc,hvn,hnc,hncell⟩:=HNUM.out (by rw [HOK.out.nl];omega)
    have hn1:=hncell w7 HK7.out h (by rw [HOK.out.nl];exact hh)
    rw [HOK.out.nl] at hvn hnc
    rw [← hLF] at hn1 hLb
    obtain ⟨c3,c2,c5,c6⟩:=HC.out w7 HK7.out
    rw [hvn] at c6
    have hhn2:(h:Int)<(nc:Int):=by omega
    clear hncell hLF
    generalize LF E h=Lh at *
    have HFO:=Hd hfo
    clear hfo
    go_wp2_with fail
    go_loopw [10,14] (fun av kv wr=>waRel E Lh a (endB E.k.l i) (advT E.k.l Lh a (endB E.k.l i)) w7 av kv wr) (fun _ kv _=>Lh-(intOf kv).toNat)
    case atStart=>exact ⟨0,a,rfl,rfl,Nat.zero_le _,Nat.le_refl _,ha,by rw [Nat.sub_zero],rfl⟩
    case round =>
     obtain ⟨j,a2,rfl,rfl,hj,ha0,ha2,hadv,rfl⟩:=hrel
     have HADV:=Hd hadv
     have hwj:IntKind.i64.wrap ((j:Int)+1)=(j:Int)+1:=by rw [IntKind.wrap_i64];omega
     clear hadv
     by_cases hjl:j<Lh
     ·have hji:(j:Int)<(Lh:Int):=by omega
      have hadv:=HADV.out
      rw [show Lh-j=(Lh-(j+1))+1 by omega,advT] at hadv
      by_cases has:a2<endB E.k.l i
      ·rw [if_pos has] at hadv
       have hal:a2<E.k.l.length:=by omega
       have hai:(a2:Int)<(endB E.k.l i:Int):=by omega
       have hai2:¬ (endB E.k.l i:Int)≤(a2:Int):=by omega
       have CE3:=Hd (CE.out wr HK7.out a2 hal)
       have hge:=endB_gt (well_rows HOK.out.hl) hal
       have HX:RowKit.Hid (waRel E Lh a (endB E.k.l i) (advT E.k.l Lh a (endB E.k.l i)) wr (.int .i64 (endB E.k.l a2:Int)) (.int .i64 ((j:Int)+1)) wr):=Hd ⟨j+1,endB E.k.l a2,by push_cast;rfl,rfl,hjl,by omega,hge.2,hadv,rfl⟩
       clear hadv has hge
       go_wp2_with fail
       refine CE3.out.mono ?_
       rintro e w9 ⟨rfl,rfl⟩
       go_wp2_with fail
       exact ⟨HX.out,by simp only [intOf];omega⟩
      ·rw [if_neg has] at hadv
       have hfo:=HFO.out
       rw [← hadv,Option.bind_none] at hfo
       have HX:=Hd (HQN.out wr hfo.symm HK7.out)
       have hai:¬ (a2:Int)<(endB E.k.l i:Int):=by omega
       have hai2:(endB E.k.l i:Int)≤(a2:Int):=by omega
       clear hfo hadv has
       go_wp2_with fail
       exact HX.out
     ·have hjL:j=Lh:=by omega
      subst hjL
      have hji:¬ (j:Int)<(j:Int):=by omega
      have hfo:=HFO.out
      have hadv:=HADV.out
      rw [Nat.sub_self,advT] at hadv
      rw [← hadv,Option.bind_some] at hfo
      have HFO2:=Hd hfo
      have CB:=Hd (CBI.out wr σ1 HI7.out h hh a a2 ha0 ha2)
      clear hfo hadv
      go_wp2_with fail
      refine CB.out.mono ?_
      intro e w9 h9
      obtain ⟨hk9,⟨τ,hτ,rfl,hi9⟩ | ⟨hτ,rfl⟩⟩:=h9.out
      ·have hfo:=HFO2.out
       rw [hτ,Option.bind_some,HNX.out] at hfo
       have HX:RowKit.Hid (wkRel E n q kp (endB E.k.f p) (endB E.k.l i) T w5 (.int .i64 (a2:Int)) (.int .i64 ((c:Int)+1)) w9):=Hd ⟨c+1,a2,M,τ,by push_cast;rfl,rfl,hlt,ha2,hfo,HFU2.out.1,by have:=HNN.out;omega,hi9,HK57.out.trans hk9⟩
       clear hfo hk9 hi9 hτ h9 CB
       go_wp2_with fail
       exact ⟨HX.out,by have:=HMS.out;simp only [intOf];omega⟩
      ·have hfo:=HFO2.out
       rw [hτ,Option.bind_none] at hfo
       have HX:=Hd (HQN.out w9 hfo.symm (HK7.out.trans hk9))
       clear hfo hk9 hτ h9 CB
       go_wp2_with fail
       exact HX.out
   ·rw [h2]
    simp only [holeI]
    obtain ⟨w7,rfl⟩:∃ w7,w7=w6:=⟨_,rfl⟩
    have hb7:=Below.refl w7.heap.size w7
    have HB7:=Hd (bthen HB6.out hb7)
    have HI7:=Hd (HI1.out.below HB7.out)
    have HK57:RowKit.Hid (KeptX E.k w5 w7):=Hd (HK5.out.trans (KeptX.of_below HB7.out))
    have HK7:RowKit.Hid (KeptX E.k w w7):=Hd (HKW.out.trans (KeptX.of_below HB7.out))
    clear hb7
    have hfo:=HFK.out
    rw [fk_one HNE.out h3] at hfo
    by_cases has:a<endB E.k.l i
    case neg =>
     rw [if_neg has] at hfo
     have HX:=Hd (HQN.out w7 hfo.symm HK7.out)
     have hai:¬ (a:Int)<(endB E.k.l i:Int):=by omega
     have hai2:(endB E.k.l i:Int)≤(a:Int):=by omega
     clear hfo has
     go_wp2_with fail
     exact HX.out
    rw [if_pos has] at hfo
    have hal:a<E.k.l.length:=by omega
    have CP:=Hd (HIH.out M (by have:=HNN.out;omega) w7 σ1 (kp c) a HI7.out hx hal HFU2.out.2)
    obtain ⟨gk',hgk',k0⟩:=HKC.out w7 HK57.out c hlt
    obtain rfl:gk=gk':=by simpa using hgk'
    have hai:(a:Int)<(endB E.k.l i:Int):=by omega
    have hai2:¬ (endB E.k.l i:Int)≤(a:Int):=by omega
    have HFO:=Hd hfo
    have HAE:=Hd (endB_gt (well_rows HOK.out.hl) hal).2
    clear hfo has hgk'
    go_wp2_with fail
    refine CP.out.mono ?_
    intro e w8 h8
    obtain ⟨hk8,⟨τ,hτ,rfl,hi8⟩ | ⟨hτ,rfl⟩⟩:=h8.out
    ·have hfo:=HFO.out
     rw [hτ,Option.bind_some,HNX.out] at hfo
     have HK8:RowKit.Hid (KeptX E.k w w8):=Hd (HK7.out.trans hk8)
     have HX:RowKit.Hid (wkRel E n q kp (endB E.k.f p) (endB E.k.l i) T w5 (.int .i64 (endB E.k.l a:Int)) (.int .i64 ((c:Int)+1)) w8):=Hd ⟨c+1,endB E.k.l a,M,τ,by push_cast;rfl,rfl,hlt,HAE.out,hfo,HFU2.out.1,by have:=HNN.out;omega,hi8,HK57.out.trans hk8⟩
     have CE2:=Hd (CE.out w8 HK8.out a hal)
     obtain ⟨c3,c2,c5,c6⟩:=HC.out w8 HK8.out
     clear hfo hk8 hi8 hτ h8 CP k0
     go_wp2_with fail
     refine CE2.out.mono ?_
     rintro e w9 ⟨rfl,rfl⟩
     go_wp2_with fail
     exact ⟨HX.out,by have:=HMS.out;simp only [intOf];omega⟩
    ·have hfo:=HFO.out
     rw [hτ,Option.bind_none] at hfo
     have HX:=Hd (HQN.out w8 hfo.symm (HK7.out.trans hk8))
     clear hfo hk8 hτ h8 CP k0
     go_wp2_with fail
     exact HX.out
  ·obtain rfl:c=q:=by omega
   have hkl:¬ (c:Int)<(c:Int):=by omega
   have hfe:=HFK.out
   rw [HKS.out.e,fk_end] at hfe
   by_cases hs:a=endB E.k.l i
   ·rw [if_pos hs] at hfe
    have HX:=Hd (HQY.out σ1 wr hfe.symm HKW.out HI1.out)
    have g9:((a:Int) == (endB E.k.l i:Int))=true:=by rw [beq_iff_eq];omega
    have g8:(a == endB E.k.l i)=true:=by rw [beq_iff_eq];exact hs
    clear hs hfe
    go_wp2_with fail
    exact HX.out
   ·rw [if_neg hs] at hfe
    have HX:=Hd (HQN.out wr hfe.symm HKW.out)
    have g9:((a:Int) == (endB E.k.l i:Int))=false:=by rw [beq_eq_false_iff_ne];omega
    have g8:(a == endB E.k.l i)=false:=by rw [beq_eq_false_iff_ne];exact hs
    clear hs hfe
    go_wp2_with fail
    exact HX.out
end Go.Proofs.YtlkheofphafofaaGreatDoor
namespace Go.Proofs.YtlkheofphafofaaGreatDoor
set_option linter.all false
attribute [local irreducible] Calls
attribute [local irreducible] wpStill
open Go.RowKit

set_option maxRecDepth 100000 in
set_option maxHeartbeats 32000000 in
theorem wy_part_sev (E:WyE) (ok:WyOK E) (n:Nat) (ih:∀ m,m<n+1→WPartC E m) (w:World) (σ:MSt) (p i:Nat) (hi:WyIn E σ w) (hp:p<E.k.f.length) (hil:i<E.k.l.length) (hfuel:2*(endB E.k.f p-p)≤n+1) (h:Nat) (hsv:sevOf E.k.f E.k.hs p=some h) :
  Calls Tryz.prog 42 #[.pointer (some ⟨E.k.g,0,none⟩),.int .i64 (p:Int),.int .i64 (i:Int)] w (wayPost E (fPart E.k.f E.k.l E.k.hs (LF E) (n+1) p i σ) w):=by
 obtain ⟨hsev,hho⟩:=sevOf_sev E.k.f E.k.hs hsv
 have hone:oneOf E.k.f E.k.hs p=none:=by unfold oneOf;rw [hho];simp only [];rw [if_pos hsev]
 rw [fp_else hone]
 obtain ⟨T,hT⟩:∃ T,(if alikeP E.k.f E.k.l p i=true then fKids E.k.f E.k.l E.k.hs (LF E) n (p+1) (endB E.k.f p) (i+1) (endB E.k.l i) σ else none)=T:=⟨_,rfl⟩
 rw [hT]
 have HQY:RowKit.Hid (∀ τ w',T=some τ→KeptX E.k w w'→WyIn E τ w'→wayPost E T w (.returned (.bool true)) w'):=Hd fun τ w' h1 h2 h3=>wayPost.yes h1 h2 h3
 have HQN:RowKit.Hid (∀ w',T=none→KeptX E.k w w'→wayPost E T w (.returned (.bool false)) w'):=Hd fun w' h1 h2=>wayPost.no h1 h2
 generalize wayPost E T w=Q at *
 have hfl:=ok.fl
 have hll:=ok.ll
 have hhn:=ok.hn
 have hgf:=endB_gt (well_rows ok.hf.well) hp
 have hgl:=endB_gt (well_rows ok.hl) hil
 obtain ⟨q,kp,KS⟩:=kid_seq (well_rows ok.hf.well) hp
 have C1:=Hd (ref_Hole E.k.f E.k.hs hfl hhn p hp _ _ w hi.st.now.f hi.st.now.h)
 rw [hho] at C1
 simp only [holeI] at C1
 have CHO:=Hd (fun W (hk:KeptX E.k w W) x (hx:x<E.k.f.length)=>ref_Hole E.k.f E.k.hs hfl hhn x hx _ _ W (hi.st W hk).f (hi.st W hk).h)
 have CE:=Hd (fun W (hk:KeptX E.k w W) x (hx:x<E.k.l.length)=>show Calls Tryz.prog 20 #[E.k.vl,.int .i64 (x:Int)] W fun e w'=>e=.returned (.int .i64 (endB E.k.l x:Int))∧W=w' by
  have:=ref_End11 E.k.l (by omega) _ x (by omega) W (hi.st W hk).l
  rw [endR_end (well_rows ok.hl) hx] at this
  exact this)
 have CKI:=Hd (fun W (hk:KeptX E.k w W)=>ref_KidsOwn E.k.f (by omega) _ (well_rows ok.hf.well) _ p hp W (hi.st W hk).f)
 have CBI:=Hd (fun W σ' (hs:WyIn E σ' W) h (hh:h<E.k.hs.length) a b (h1:a≤b) (h2:b≤E.k.l.length)=>wy_bind E ok W σ' hs h hh a b h1 h2)
 have CSV:=Hd (fun s k W=>ref_Several s k W)
 have HIH:=Hd ih
 have HOLE:=Hd (fun (hpos:0<E.k.hs.length)=>hi.st.holes hpos)
 have HNUM:=Hd (fun (hpos:0<E.ns.length)=>hi.st.nums hpos)
 obtain ⟨fb,fo,fc,hvf,hfc,HF⟩:=WyStat.parts (E:=E) (w:=w) (L:=E.k.f) (v:=E.k.vf) (fun w' hk=>(hi.st w' hk).f) (by omega)
 obtain ⟨lb,lo,lc,hvl,hlc,HL⟩:=WyStat.parts (E:=E) (w:=w) (L:=E.k.l) (v:=E.k.vl) (fun w' hk=>(hi.st w' hk).l) (by omega)
 obtain ⟨ha,hc,hvh,hhc⟩:=Row.shape hi.st.now.h
 have HC:RowKit.Hid (∀ W,KeptX E.k w W→W.cell? ⟨E.k.g,3,none⟩=some (.slice (some ⟨fb,fo,none⟩) E.k.f.length fc)∧W.cell? ⟨E.k.g,2,none⟩=some (.slice ha E.k.hs.length hc)∧W.cell? ⟨E.k.g,5,none⟩=some (.slice (some ⟨lb,lo,none⟩) E.k.l.length lc)∧W.cell? ⟨E.k.g,6,none⟩=some E.vn):=Hd fun W hk=>by
  have h:=(hi.st W hk).cells
  exact ⟨by rw [h.2.2.2.1,hvf],by rw [h.2.2.1,hvh],by rw [h.2.2.2.2.2.1,hvl],h.2.2.2.2.2.2.1⟩
 have HCF:RowKit.Hid (∀ W,KeptX E.k w W→W.cell? ⟨fb,fo+p*3,none⟩=some (.int .u8 ((E.k.f[p]).1:Int))∧W.cell? ⟨fb,fo+p*3+2,none⟩=some (.string (E.k.f[p]).2.2)):=Hd fun W hk=>⟨(HF W hk p hp).1,(HF W hk p hp).2.2⟩
 have HCL:RowKit.Hid (∀ W,KeptX E.k w W→W.cell? ⟨lb,lo+i*3,none⟩=some (.int .u8 ((E.k.l[i]).1:Int))∧W.cell? ⟨lb,lo+i*3+2,none⟩=some (.string (E.k.l[i]).2.2)):=Hd fun W hk=>⟨(HL W hk i hil).1,(HL W hk i hil).2.2⟩
 have HC0:RowKit.Hid (∀ W,KeptX E.k w W→W.cell? ⟨E.k.g,2,none⟩=some E.vh):=Hd fun W hk=>(hi.st W hk).cells.2.2.1
 have HI:=Hd hi
 have HOK:=Hd ok
 have HKS:=Hd KS
 have HT:=Hd hT
 have HFU:=Hd hfuel
 rw [alike_tells hp hil] at HT
 have hp0:(0:Int)≤(p:Int):=by omega
 have hpl:(p:Int)<E.k.f.length:=by omega
 have hpc:(p:Int)<(fc:Int):=by omega
 have hi0:(0:Int)≤(i:Int):=by omega
 have hill:(i:Int)<E.k.l.length:=by omega
 have hilc:(i:Int)<(lc:Int):=by omega
 obtain ⟨c3,c2,c5,c6⟩:=HC.out w (KeptX.refl _ _)
 rw [hvf,hvh] at C1
 rw [hvf,hvh] at CHO
 rw [hvf] at CKI
 rw [hvl] at CE
 have hh:=hole_lt E.k.f E.k.hs hho
 obtain ⟨hb,ho',rfl⟩:∃ hb ho',ha=some ⟨hb,ho',none⟩:=by
  obtain ⟨b,off,cap,e,_,_⟩:=HOLE.out (by omega)
  rw [hvh] at e
  simp only [Value.slice.injEq] at e
  exact ⟨b,off,e.1⟩
 have HH0:RowKit.Hid (∀ W,KeptX E.k w W→W.cell? ⟨hb,ho'+h*2,none⟩=some (.string (E.k.hs[h]).1)∧W.cell? ⟨hb,ho'+h*2+1,none⟩=some (.int .u8 ((E.k.hs[h]).2:Int))):=Hd fun W hk=>by
  obtain ⟨b,off,cap,e,_,hcell⟩:=HOLE.out (by omega)
  rw [hvh] at e
  simp only [Value.slice.injEq,Option.some.injEq,Addr.mk.injEq,and_true,true_and] at e
  obtain ⟨⟨rfl,rfl⟩,rfl⟩:=e
  exact hcell W hk h hh
 have hk1:hkind E.k.hs h=(E.k.hs[h]).2:=by unfold hkind;rw [List.getElem?_eq_getElem hh]
 have C2:=Hd (fun W=>ref_Several (E.k.hs[h]).1 (E.k.hs[h]).2 W)
 rw [← hk1,hsev] at C2
 rw [← hk1] at HH0
 have hh0:(0:Int)≤(h:Int):=by omega
 have hhl:(h:Int)<E.k.hs.length:=by omega
 have hhk:(h:Int)<(hc:Int):=by omega
 clear hk1 hsev hho hsv
 generalize hkind E.k.hs h=xk at *
 generalize (E.k.hs[h]).1=xn at *
 clear hi ok ih hone hT KS hfuel hvf hvl HF HL
 generalize E.k.f[p]=pf at *
 generalize E.k.l[i]=pl at *
 obtain ⟨f1,f2,f3⟩:=pf
 obtain ⟨l1,l2,l3⟩:=pl
 simp only [] at HCF HCL HT
 go_enter Tryz.func42,Tryz.ntmps42
 go_wp2_with fail
 refine C1.out.mono ?_
 rintro e w1 ⟨rfl,hb1⟩
 have HB1:=Hd hb1
 clear hb1 C1 c2 c3 c5 c6
 obtain ⟨c3,c2,c5,c6⟩:=HC.out w1 (KeptX.of_below HB1.out)
 obtain ⟨d0,d1⟩:=HH0.out w1 (KeptX.of_below HB1.out)
 go_wp2_with fail
 refine (C2.out _).mono ?_
 rintro e w2 ⟨rfl,hb2⟩
 have HB2:=Hd (bthen HB1.out hb2)
 clear hb2 C2 d0 d1 c2 c3 c5 c6 HB1 HH0
 generalize (h:Int)=hz at *
 go_upto_region 5 with (fail)
 have HKD:RowKit.Hid (KeptX E.k w w2.drew):=Hd (KeptX.of_below HB2.out.drew)
 have HBD:RowKit.Hid (Below w.heap.size w w2.drew):=Hd HB2.out.drew
 have HK2:RowKit.Hid (KeptX E.k w w2):=Hd (KeptX.of_below HB2.out)
 obtain ⟨c3,c2,c5,c6⟩:=HC.out w2 HK2.out
 obtain ⟨x0,x2⟩:=HCF.out w2 HK2.out
 obtain ⟨y0,y2⟩:=HCL.out w2 HK2.out
 by_cases hk:f1=l1
 case neg =>
  have hTN:T=none:=by rw [← HT.out,if_neg (by simp [hk])]
  have g1:((f1:Int) != (l1:Int))=true:=by rw [bne_iff_ne];omega
  have HX:=Hd (fun nq=>HQN.out (w2.drewN (nq+1)) hTN (HK2.out.trans (KeptX.drewN E.k w2 (nq+1))))
  have HX2:=Hd (HQN.out w2.drew hTN HKD.out)
  have HX3:=Hd (fun nq=>HQN.out (w2.drewN nq) hTN (HK2.out.trans (KeptX.drewN E.k w2 nq)))
  clear hk hTN
  go_quiet (fail)
  go_wp2_with fail
  first | exact HX.out _ | exact HX2.out | exact HX3.out _
 subst hk
 by_cases hw:f3=l3
 case neg =>
  have hTN:T=none:=by rw [← HT.out,if_neg (by simp [hw])]
  have g1:((f1:Int) != (f1:Int))=false:=by rw [bne_eq_false_iff_eq]
  have g2:(f3.toList == l3.toList)=false:=by rw [beq_eq_false_iff_ne];exact pl_bytes_ne hw
  have g3:(f3.toList != l3.toList)=true:=by rw [bne_iff_ne];exact pl_bytes_ne hw
  have HX:=Hd (fun nq=>HQN.out (w2.drewN (nq+1)) hTN (HK2.out.trans (KeptX.drewN E.k w2 (nq+1))))
  have HX2:=Hd (HQN.out w2.drew hTN HKD.out)
  have HX3:=Hd (fun nq=>HQN.out (w2.drewN nq) hTN (HK2.out.trans (KeptX.drewN E.k w2 nq)))
  clear hw hTN
  go_quiet (fail)
  go_wp2_with fail
  first | exact HX.out _ | exact HX2.out | exact HX3.out _
 subst hw
 have hTT:=HT.out
 rw [if_pos (by simp)] at hTT
 have HT2:=Hd hTT
 clear hTT HT
 have g1:((f1:Int) != (f1:Int))=false:=by rw [bne_eq_false_iff_eq]
 go_quiet (fail)
 have HB3:RowKit.Hid (Below w.heap.size w (w2.drewN nq)):=Hd (drewB HB2.out nq)
 clear x0 x2 y0 y2 c3 c2 c5 c6 g1 HKD HBD HK2 HCF HCL
 generalize w2.drewN nq=w3 at *
 have HK3:RowKit.Hid (KeptX E.k w w3):=Hd (KeptX.of_below HB3.out)
 obtain ⟨c3,c2,c5,c6⟩:=HC.out w3 HK3.out
 have CE1:=Hd (CE.out w3 HK3.out i hil)
 have CK1:=Hd (CKI.out w3 HK3.out)
 go_wp2_with fail
 refine CE1.out.mono ?_
 rintro e w4 ⟨rfl,rfl⟩
 clear CE1
 go_wp2_with fail
 refine CK1.out.mono ?_
 intro e w5 h5
 unfold kidsOwn at h5
 obtain ⟨kv,rfl,hb5,ho5⟩:=h5
 rw [HKS.out.len] at ho5
 obtain ⟨ka,kc,rfl,hkc⟩:=Row.shape (Row.of_owns ho5)
 have HB5:=Hd (bthen HB3.out hb5)
 have HKC:RowKit.Hid (∀ W,KeptX E.k w5 W→∀ c,c<q→∃ g,ka=some ⟨g,0,none⟩∧W.cell? ⟨g,c,none⟩=some (.int .i64 (kp c:Int))):=Hd fun W hW c hc=>by
  rcases ho5.2 with ⟨_,h0⟩ | ⟨g,cap,cur,hv,hg,hh,hnc,_,hcs,htk⟩
  ·omega
  ·simp only [Value.slice.injEq] at hv
   obtain ⟨rfl,_,rfl⟩:=hv
   refine ⟨g,rfl,?_⟩
   have hgl:=keeps_lt hh
   have h1:∀ v:Value,w.heap.size≤g→(∀ k,v.ownBlock=some k→k<w.heap.size)→some g≠v.ownBlock:=fun v h1 h2 e=>by have:=h2 g e.symm;omega
   have h2:w.heap.size≤g:=Nat.le_trans HB3.out.size hg
   rw [hW.cell hgl (h1 _ h2 (fun k hk=>(HI.out.b.lt k hk).2)) (h1 _ h2 (fun k hk=>(HI.out.z.lt k hk).2))]
   rw [ho5.cellAt _ (by omega)]
   unfold natV
   rw [List.getElem?_map,HKS.out.get c hc];rfl
 clear hb5 ho5 CK1 c3 c2 c5 c6
 have hqn:=HKS.out.n
 go_wp2_with fail
 go_loopw [10,12] (fun av nv wr=>wkRel E n q kp (endB E.k.f p) (endB E.k.l i) T w5 av nv wr) (fun _ nv _=>q-(intOf nv).toNat)
 case atStart=>exact ⟨0,i+1,n,σ,rfl,by push_cast;rfl,Nat.zero_le _,by omega,by rw [HKS.out.z];exact HT2.out,by rw [HKS.out.z];have:=HFU.out;omega,Nat.le_refl _,HI.out.below HB5.out,KeptX.refl _ _⟩
 case round =>
  obtain ⟨c,a,N,σ1,rfl,rfl,hc,ha,hfk,hN,hNn,hi1,hk1⟩:=hrel
  have HI1:=Hd hi1
  have HK5:=Hd hk1
  have HKW:RowKit.Hid (KeptX E.k w wr):=Hd ((KeptX.of_below HB5.out).trans hk1)
  have HFK:=Hd hfk
  obtain ⟨M,rfl⟩:∃ M,N=M+1:=⟨N-1,by omega⟩
  have HFN:=Hd hN
  have HNN:=Hd hNn
  have hwc:IntKind.i64.wrap ((c:Int)+1)=(c:Int)+1:=by rw [IntKind.wrap_i64];omega
  clear hi1 hk1 hfk hN hNn
  by_cases hlt:c<q
  ·obtain ⟨gk,rfl,k0⟩:=HKC.out wr HK5.out c hlt
   obtain ⟨c3,c2,c5,c6⟩:=HC.out wr HKW.out
   have hx:=HKS.out.lt c hlt
   have hci:(c:Int)<q:=by omega
   have hc0:(0:Int)≤(c:Int):=by omega
   have hcc:(c:Int)<(kc:Int):=by omega
   have HNE:RowKit.Hid (kp c≠endB E.k.f p):=Hd (by have:=HKS.out.up c hlt;have:=HKS.out.le (c+1) hlt;omega)
   have HNX:=Hd (HKS.out.nx c hlt)
   have HFU2:RowKit.Hid (2*(endB E.k.f p-kp (c+1))+1≤M∧2*(endB E.k.f (kp c)-kp c)≤M):=Hd (by
    have h1:=HKS.out.up c hlt;have h2:=HKS.out.le (c+1) hlt;have h3:=HFN.out
    rw [HKS.out.nx c hlt];omega)
   have CH1:=Hd (CHO.out wr.drew (HKW.out.trans (KeptX.drew _ _)) (kp c) hx)
   go_upto_region 13 with (fail)
   go_still_tail 10,(by kernel_rfl)
   go_wp2_with fail
   refine CH1.out.mono ?_
   rintro e w6 ⟨rfl,hb6⟩
   have HB6:RowKit.Hid (Below wr.heap.size wr w6):=Hd (bthen (Below.refl _ _).drew hb6)
   clear hb6 CH1 c3 c2 c5 c6 k0
   have HMS:RowKit.Hid (q-(c+1)<q-c):=Hd (by omega)
   rcases hole_parts E.k.f E.k.hs (kp c) with ⟨h,h1,h2,h3⟩ | ⟨h,h1,h2,h3⟩ | ⟨h1,h2,h3⟩
   ·have hh:=hole_lt E.k.f E.k.hs h2
    obtain ⟨qb,qo,qc,qv,hqc,hqcell⟩:=HOLE.out (by omega)
    have HKW6:RowKit.Hid (KeptX E.k w w6):=Hd (HKW.out.trans (KeptX.of_below HB6.out))
    have hcc:=HC.out w6 HKW6.out
    have c3:=hcc.1
    have c5:=hcc.2.2.1
    have c6:=hcc.2.2.2
    clear hcc
    obtain ⟨d0,d1⟩:=hqcell w6 HKW6.out h hh
    have c2:w6.cell? ⟨E.k.g,2,none⟩=some (.slice (some ⟨qb,qo,none⟩) E.k.hs.length qc):=by rw [← qv];exact HC0.out w6 HKW6.out
    have hhk:(h:Int)<(qc:Int):=by omega
    rw [hvh] at qv
    simp only [Value.slice.injEq,Option.some.injEq,Addr.mk.injEq,and_true,true_and] at qv
    obtain ⟨⟨rfl,rfl⟩,rfl⟩:=qv
    have CS1:=Hd (CSV.out (E.k.hs[h]).1 (E.k.hs[h]).2 w6)
    have hk1:hkind E.k.hs h=(E.k.hs[h]).2:=by unfold hkind;rw [List.getElem?_eq_getElem hh]
    have hh0:(0:Int)≤(h:Int):=by omega
    have hn0:¬ (h:Int)<0:=by omega
    have hhl:(h:Int)<E.k.hs.length:=by omega
    have hsv2:=(oneOf_one E.k.f E.k.hs h1).1
    rw [hk1] at hsv2
    rw [hsv2] at CS1
    clear hsv2 hk1
    clear hqcell
    rw [h2]
    simp only [holeI]
    generalize (E.k.hs[h]).2=xk2 at *
    generalize (E.k.hs[h]).1=xn2 at *
    go_wp2_with fail
    refine CS1.out.mono ?_
    rintro e w7 ⟨rfl,hb7⟩
    clear CS1 c2 c3 c5 c6 d0 d1
    have HB7:=Hd (bthen HB6.out hb7)
    have HI7:=Hd (HI1.out.below HB7.out)
    have HK57:RowKit.Hid (KeptX E.k w5 w7):=Hd (HK5.out.trans (KeptX.of_below HB7.out))
    have HK7:RowKit.Hid (KeptX E.k w w7):=Hd (HKW.out.trans (KeptX.of_below HB7.out))
    clear hb7
    have hfo:=HFK.out
    rw [fk_one HNE.out h3] at hfo
    by_cases has:a<endB E.k.l i
    case neg =>
     rw [if_neg has] at hfo
     have HX:=Hd (HQN.out w7 hfo.symm HK7.out)
     have hai:¬ (a:Int)<(endB E.k.l i:Int):=by omega
     have hai2:(endB E.k.l i:Int)≤(a:Int):=by omega
     clear hfo has
     go_wp2_with fail
     exact HX.out
    rw [if_pos has] at hfo
    have hal:a<E.k.l.length:=by omega
    have CP:=Hd (HIH.out M (by have:=HNN.out;omega) w7 σ1 (kp c) a HI7.out hx hal HFU2.out.2)
    obtain ⟨gk',hgk',k0⟩:=HKC.out w7 HK57.out c hlt
    obtain rfl:gk=gk':=by simpa using hgk'
    have hai:(a:Int)<(endB E.k.l i:Int):=by omega
    have hai2:¬ (endB E.k.l i:Int)≤(a:Int):=by omega
    have HFO:=Hd hfo
    have HAE:=Hd (endB_gt (well_rows HOK.out.hl) hal).2
    clear hfo has hgk'
    go_wp2_with fail
    refine CP.out.mono ?_
    intro e w8 h8
    obtain ⟨hk8,⟨τ,hτ,rfl,hi8⟩ | ⟨hτ,rfl⟩⟩:=h8.out
    ·have hfo:=HFO.out
     rw [hτ,Option.bind_some,HNX.out] at hfo
     have HK8:RowKit.Hid (KeptX E.k w w8):=Hd (HK7.out.trans hk8)
     have HX:RowKit.Hid (wkRel E n q kp (endB E.k.f p) (endB E.k.l i) T w5 (.int .i64 (endB E.k.l a:Int)) (.int .i64 ((c:Int)+1)) w8):=Hd ⟨c+1,endB E.k.l a,M,τ,by push_cast;rfl,rfl,hlt,HAE.out,hfo,HFU2.out.1,by have:=HNN.out;omega,hi8,HK57.out.trans hk8⟩
     have CE2:=Hd (CE.out w8 HK8.out a hal)
     obtain ⟨c3,c2,c5,c6⟩:=HC.out w8 HK8.out
     clear hfo hk8 hi8 hτ h8 CP k0
     go_wp2_with fail
     refine CE2.out.mono ?_
     rintro e w9 ⟨rfl,rfl⟩
     go_wp2_with fail
     exact ⟨HX.out,by have:=HMS.out;simp only [intOf];omega⟩
    ·have hfo:=HFO.out
     rw [hτ,Option.bind_none] at hfo
     have HX:=Hd (HQN.out w8 hfo.symm (HK7.out.trans hk8))
     clear hfo hk8 hτ h8 CP k0
     go_wp2_with fail
     exact HX.out
   ·have hh:=hole_lt E.k.f E.k.hs h2
    obtain ⟨qb,qo,qc,qv,hqc,hqcell⟩:=HOLE.out (by omega)
    have HKW6:RowKit.Hid (KeptX E.k w w6):=Hd (HKW.out.trans (KeptX.of_below HB6.out))
    have hcc:=HC.out w6 HKW6.out
    have c3:=hcc.1
    have c5:=hcc.2.2.1
    have c6:=hcc.2.2.2
    clear hcc
    obtain ⟨d0,d1⟩:=hqcell w6 HKW6.out h hh
    have c2:w6.cell? ⟨E.k.g,2,none⟩=some (.slice (some ⟨qb,qo,none⟩) E.k.hs.length qc):=by rw [← qv];exact HC0.out w6 HKW6.out
    have hhk:(h:Int)<(qc:Int):=by omega
    rw [hvh] at qv
    simp only [Value.slice.injEq,Option.some.injEq,Addr.mk.injEq,and_true,true_and] at qv
    obtain ⟨⟨rfl,rfl⟩,rfl⟩:=qv
    have CS1:=Hd (CSV.out (E.k.hs[h]).1 (E.k.hs[h]).2 w6)
    have hk1:hkind E.k.hs h=(E.k.hs[h]).2:=by unfold hkind;rw [List.getElem?_eq_getElem hh]
    have hh0:(0:Int)≤(h:Int):=by omega
    have hn0:¬ (h:Int)<0:=by omega
    have hhl:(h:Int)<E.k.hs.length:=by omega
    have hsv2:=(sevOf_sev E.k.f E.k.hs h1).1
    rw [hk1] at hsv2
    rw [hsv2] at CS1
    clear hsv2 hk1
    clear hqcell
    rw [h2]
    simp only [holeI]
    generalize (E.k.hs[h]).2=xk2 at *
    generalize (E.k.hs[h]).1=xn2 at *
    go_wp2_with fail
    refine CS1.out.mono ?_
    rintro e w7 ⟨rfl,hb7⟩
    clear CS1 c2 c3 c5 c6 d0 d1
    have HB7:=Hd (bthen HB6.out hb7)
    have HI7:=Hd (HI1.out.below HB7.out)
    have HK57:RowKit.Hid (KeptX E.k w5 w7):=Hd (HK5.out.trans (KeptX.of_below HB7.out))
    have HK7:RowKit.Hid (KeptX E.k w w7):=Hd (HKW.out.trans (KeptX.of_below HB7.out))
    clear hb7
    have hfo:=HFK.out
    rw [fk_sev HNE.out h1] at hfo
    have hLF:LF E h=E.ns[h]'(by rw [HOK.out.nl];exact hh):=by unfold LF;rw [List.getD_eq_getElem?_getD,List.getElem?_eq_getElem (by rw [HOK.out.nl];exact hh)];rfl
    have hLb:=HOK.out.nb _ (List.getElem_mem (show h<E.ns.length by rw [HOK.out.nl];exact hh))
    obtain ⟨nb,no,nc,hvn,hnc,hncell⟩:=HNUM.out (by rw [HOK.out.nl];omega)
    have hn1:=hncell w7 HK7.out h (by rw [HOK.out.nl];exact hh)
    rw [HOK.out.nl] at hvn hnc
    rw [← hLF] at hn1 hLb
    obtain ⟨c3,c2,c5,c6⟩:=HC.out w7 HK7.out
    rw [hvn] at c6
    have hhn2:(h:Int)<(nc:Int):=by omega
    clear hncell hLF
    generalize LF E h=Lh at *
    have HFO:=Hd hfo
    clear hfo
    go_wp2_with fail
    go_loopw [10,14] (fun av kv wr=>waRel E Lh a (endB E.k.l i) (advT E.k.l Lh a (endB E.k.l i)) w7 av kv wr) (fun _ kv _=>Lh-(intOf kv).toNat)
    case atStart=>exact ⟨0,a,rfl,rfl,Nat.zero_le _,Nat.le_refl _,ha,by rw [Nat.sub_zero],rfl⟩
    case round =>
     obtain ⟨j,a2,rfl,rfl,hj,ha0,ha2,hadv,rfl⟩:=hrel
     have HADV:=Hd hadv
     have hwj:IntKind.i64.wrap ((j:Int)+1)=(j:Int)+1:=by rw [IntKind.wrap_i64];omega
     clear hadv
     by_cases hjl:j<Lh
     ·have hji:(j:Int)<(Lh:Int):=by omega
      have hadv:=HADV.out
      rw [show Lh-j=(Lh-(j+1))+1 by omega,advT] at hadv
      by_cases has:a2<endB E.k.l i
      ·rw [if_pos has] at hadv
       have hal:a2<E.k.l.length:=by omega
       have hai:(a2:Int)<(endB E.k.l i:Int):=by omega
       have hai2:¬ (endB E.k.l i:Int)≤(a2:Int):=by omega
       have CE3:=Hd (CE.out wr HK7.out a2 hal)
       have hge:=endB_gt (well_rows HOK.out.hl) hal
       have HX:RowKit.Hid (waRel E Lh a (endB E.k.l i) (advT E.k.l Lh a (endB E.k.l i)) wr (.int .i64 (endB E.k.l a2:Int)) (.int .i64 ((j:Int)+1)) wr):=Hd ⟨j+1,endB E.k.l a2,by push_cast;rfl,rfl,hjl,by omega,hge.2,hadv,rfl⟩
       clear hadv has hge
       go_wp2_with fail
       refine CE3.out.mono ?_
       rintro e w9 ⟨rfl,rfl⟩
       go_wp2_with fail
       exact ⟨HX.out,by simp only [intOf];omega⟩
      ·rw [if_neg has] at hadv
       have hfo:=HFO.out
       rw [← hadv,Option.bind_none] at hfo
       have HX:=Hd (HQN.out wr hfo.symm HK7.out)
       have hai:¬ (a2:Int)<(endB E.k.l i:Int):=by omega
       have hai2:(endB E.k.l i:Int)≤(a2:Int):=by omega
       clear hfo hadv has
       go_wp2_with fail
       exact HX.out
     ·have hjL:j=Lh:=by omega
      subst hjL
      have hji:¬ (j:Int)<(j:Int):=by omega
      have hfo:=HFO.out
      have hadv:=HADV.out
      rw [Nat.sub_self,advT] at hadv
      rw [← hadv,Option.bind_some] at hfo
      have HFO2:=Hd hfo
      have CB:=Hd (CBI.out wr σ1 HI7.out h hh a a2 ha0 ha2)
      clear hfo hadv
      go_wp2_with fail
      refine CB.out.mono ?_
      intro e w9 h9
      obtain ⟨hk9,⟨τ,hτ,rfl,hi9⟩ | ⟨hτ,rfl⟩⟩:=h9.out
      ·have hfo:=HFO2.out
       rw [hτ,Option.bind_some,HNX.out] at hfo
       have HX:RowKit.Hid (wkRel E n q kp (endB E.k.f p) (endB E.k.l i) T w5 (.int .i64 (a2:Int)) (.int .i64 ((c:Int)+1)) w9):=Hd ⟨c+1,a2,M,τ,by push_cast;rfl,rfl,hlt,ha2,hfo,HFU2.out.1,by have:=HNN.out;omega,hi9,HK57.out.trans hk9⟩
       clear hfo hk9 hi9 hτ h9 CB
       go_wp2_with fail
       exact ⟨HX.out,by have:=HMS.out;simp only [intOf];omega⟩
      ·have hfo:=HFO2.out
       rw [hτ,Option.bind_none] at hfo
       have HX:=Hd (HQN.out w9 hfo.symm (HK7.out.trans hk9))
       clear hfo hk9 hτ h9 CB
       go_wp2_with fail
       exact HX.out
   ·rw [h2]
    simp only [holeI]
    obtain ⟨w7,rfl⟩:∃ w7,w7=w6:=⟨_,rfl⟩
    have hb7:=Below.refl w7.heap.size w7
    have HB7:=Hd (bthen HB6.out hb7)
    have HI7:=Hd (HI1.out.below HB7.out)
    have HK57:RowKit.Hid (KeptX E.k w5 w7):=Hd (HK5.out.trans (KeptX.of_below HB7.out))
    have HK7:RowKit.Hid (KeptX E.k w w7):=Hd (HKW.out.trans (KeptX.of_below HB7.out))
    clear hb7
    have hfo:=HFK.out
    rw [fk_one HNE.out h3] at hfo
    by_cases has:a<endB E.k.l i
    case neg =>
     rw [if_neg has] at hfo
     have HX:=Hd (HQN.out w7 hfo.symm HK7.out)
     have hai:¬ (a:Int)<(endB E.k.l i:Int):=by omega
     have hai2:(endB E.k.l i:Int)≤(a:Int):=by omega
     clear hfo has
     go_wp2_with fail
     exact HX.out
    rw [if_pos has] at hfo
    have hal:a<E.k.l.length:=by omega
    have CP:=Hd (HIH.out M (by have:=HNN.out;omega) w7 σ1 (kp c) a HI7.out hx hal HFU2.out.2)
    obtain ⟨gk',hgk',k0⟩:=HKC.out w7 HK57.out c hlt
    obtain rfl:gk=gk':=by simpa using hgk'
    have hai:(a:Int)<(endB E.k.l i:Int):=by omega
    have hai2:¬ (endB E.k.l i:Int)≤(a:Int):=by omega
    have HFO:=Hd hfo
    have HAE:=Hd (endB_gt (well_rows HOK.out.hl) hal).2
    clear hfo has hgk'
    go_wp2_with fail
    refine CP.out.mono ?_
    intro e w8 h8
    obtain ⟨hk8,⟨τ,hτ,rfl,hi8⟩ | ⟨hτ,rfl⟩⟩:=h8.out
    ·have hfo:=HFO.out
     rw [hτ,Option.bind_some,HNX.out] at hfo
     have HK8:RowKit.Hid (KeptX E.k w w8):=Hd (HK7.out.trans hk8)
     have HX:RowKit.Hid (wkRel E n q kp (endB E.k.f p) (endB E.k.l i) T w5 (.int .i64 (endB E.k.l a:Int)) (.int .i64 ((c:Int)+1)) w8):=Hd ⟨c+1,endB E.k.l a,M,τ,by push_cast;rfl,rfl,hlt,HAE.out,hfo,HFU2.out.1,by have:=HNN.out;omega,hi8,HK57.out.trans hk8⟩
     have CE2:=Hd (CE.out w8 HK8.out a hal)
     obtain ⟨c3,c2,c5,c6⟩:=HC.out w8 HK8.out
     clear hfo hk8 hi8 hτ h8 CP k0
     go_wp2_with fail
     refine CE2.out.mono ?_
     rintro e w9 ⟨rfl,rfl⟩
     go_wp2_with fail
     exact ⟨HX.out,by have:=HMS.out;simp only [intOf];omega⟩
    ·have hfo:=HFO.out
     rw [hτ,Option.bind_none] at hfo
     have HX:=Hd (HQN.out w8 hfo.symm (HK7.out.trans hk8))
     clear hfo hk8 hτ h8 CP k0
     go_wp2_with fail
     exact HX.out
  ·obtain rfl:c=q:=by omega
   have hkl:¬ (c:Int)<(c:Int):=by omega
   have hfe:=HFK.out
   rw [HKS.out.e,fk_end] at hfe
   by_cases hs:a=endB E.k.l i
   ·rw [if_pos hs] at hfe
    have HX:=Hd (HQY.out σ1 wr hfe.symm HKW.out HI1.out)
    have g9:((a:Int) == (endB E.k.l i:Int))=true:=by rw [beq_iff_eq];omega
    have g8:(a == endB E.k.l i)=true:=by rw [beq_iff_eq];exact hs
    clear hs hfe
    go_wp2_with fail
    exact HX.out
   ·rw [if_neg hs] at hfe
    have HX:=Hd (HQN.out wr hfe.symm HKW.out)
    have g9:((a:Int) == (endB E.k.l i:Int))=false:=by rw [beq_eq_false_iff_ne];omega
    have g8:(a == endB E.k.l i)=false:=by rw [beq_eq_false_iff_ne];exact hs
    clear hs hfe
    go_wp2_with fail
    exact HX.out
end Go.Proofs.YtlkheofphafofaaGreatDoor
