/- Layer 17: the program's part where no hole for one stands, walked. -/
import Derived.Test.YtfalelkfhandfaaGreatDoorRulesVMq
namespace Go.Proofs.YtfalelkfhandfaaGreatDoor
set_option linter.all false
attribute [local irreducible] Calls
open Go.RowKit

theorem zBg {x y:ByteArray} (h:x≠y):x.toList≠y.toList:=fun e=>h (by
 rw [ByteArray.toList_eq,ByteArray.toList_eq] at e
 exact ByteArray.ext (Array.ext' e))
def noOne (E:SkE) (p:Nat) (o:Option Nat):Prop:=zM E.f E.hs p=o∧∀ h,o=some h→h<E.hs.length∧isSev (hkind E.hs h)=true
theorem zUa {E:SkE} {p:Nat} (ho:oneOf E.f E.hs p=none):∃ o,noOne E p o:=by
 refine ⟨_,rfl,fun h e=>?_⟩
 have hh:=zDf E.f E.hs e
 refine ⟨hh,?_⟩
 unfold oneOf at ho
 rw [e] at ho
 simp only [] at ho
 split at ho
 ·assumption
 ·cases ho
set_option maxRecDepth 100000 in
set_option maxHeartbeats 16000000 in
theorem zIx (E:SkE) (ok:SkOK E) (n:Nat) (IH:KidsC E n) (w:World) (σ:MSt) (p i:Nat) (K:MSt→Option MSt) (tv:Value) (hi:SkIn E σ w) (hp:p<E.f.length) (hil:i<E.l.length) (hn:2*(zA E.f p-p)≤n+1) (ht:ThenOK E K tv w) (ho:oneOf E.f E.hs p=none) :
  Calls Tryz.prog 97 #[.pointer (some ⟨E.g,0,none⟩),.int .i64 (p:Int),.int .i64 (i:Int),tv] w (seekPost E (sPart E.f E.l E.hs (n+1) p i K σ) σ w):=by
 have hsp:sPart E.f E.l E.hs (n+1) p i K σ=if alikeP E.f E.l p i then sKids E.f E.l E.hs n (p+1) (zA E.f p) (i+1) (zA E.l i) K σ else none:=by rw [sPart,ho]
 rw [hsp]
 obtain ⟨Q,hQ⟩:∃ Q,seekPost E (if alikeP E.f E.l p i then sKids E.f E.l E.hs n (p+1) (zA E.f p) (i+1) (zA E.l i) K σ else none) σ w=Q:=⟨_,rfl⟩
 have HQ:RowKit.Hid (∀ e w',seekPost E (if alikeP E.f E.l p i then sKids E.f E.l E.hs n (p+1) (zA E.f p) (i+1) (zA E.l i) K σ else none) σ w e w'→Q e w'):=Hd fun e w' h=>by rw [← hQ];exact h
 rw [hQ]
 clear hQ hsp
 obtain ⟨o,ho1,ho2⟩:=zUa ho
 have C1:=zDi E ok w hi.st.now p hp
 rw [ho1] at C1
 have C1:=Hd C1
 have hfw:=zI ok.hf.well
 have hlw:=zI ok.hl
 have hgf:=zJ hfw hp
 have hgl:=zJ hlw hil
 obtain ⟨J,_,hJ⟩:=yW hfw hp
 obtain ⟨M,_,hM⟩:=yW hlw hil
 have CK:=Hd (fun W (hk:KeptX E w W) (hs:SkIn E σ W)=>IH W σ (p+1) (zA E.f p) (i+1) (zA E.l i) K tv J M hs hgf.2 hJ hgl.2 hM (by omega) (ht.keep hk))
 rw [show ((p+1:Nat):Int)=(p:Int)+1 by omega,show ((i+1:Nat):Int)=(i:Int)+1 by omega] at CK
 obtain ⟨fb,fo,fc,hfv,hfc,hfp⟩:=hi.st.parts (L:=E.f) (v:=E.vf) (fun w' hk=>(hi.st w' hk).f) (by omega)
 obtain ⟨lb,lo,lc,hlv,hlc,hlp⟩:=hi.st.parts (L:=E.l) (v:=E.vl) (fun w' hk=>(hi.st w' hk).l) (by omega)
 obtain ⟨xb,xo,xc,hxv,hxc,hxp⟩:=hi.st.ends (L:=E.f) (v:=E.vfe) (fun w' hk=>(hi.st w' hk).fe) (by omega)
 obtain ⟨eb,eo,ec,hev,hec,hep⟩:=hi.st.ends (L:=E.l) (v:=E.ve) (fun w' hk=>(hi.st w' hk).e) (by omega)
 have HS:RowKit.Hid (∀ W,KeptX E w W→W.cell? ⟨E.g,2,none⟩=some (.slice (some ⟨xb,xo,none⟩) E.f.length xc)∧W.cell? ⟨xb,xo+p,none⟩=some (.int .i64 (zA E.f p:Int))∧W.cell? ⟨E.g,3,none⟩=some (.slice (some ⟨eb,eo,none⟩) E.l.length ec)∧W.cell? ⟨eb,eo+i,none⟩=some (.int .i64 (zA E.l i:Int))∧RowKit.Hid (KeptX E w W)):=Hd fun W hk=>by
  have hc:=(hi.st W hk).cells
  exact ⟨by rw [hc.2.2.1,hxv],hxp W hk p hp,by rw [hc.2.2.2.1,hev],hep W hk i hil,Hd hk⟩
 have HF:RowKit.Hid (∀ W,KeptX E w W→W.cell? ⟨E.g,0,none⟩=some (.slice (some ⟨fb,fo,none⟩) E.f.length fc)∧W.cell? ⟨E.g,1,none⟩=some (.slice (some ⟨lb,lo,none⟩) E.l.length lc)∧W.cell? ⟨fb,fo+p*3,none⟩=some (.int .u8 (E.f[p].1:Int))∧W.cell? ⟨fb,fo+p*3+2,none⟩=some (.string E.f[p].2.2)∧W.cell? ⟨lb,lo+i*3,none⟩=some (.int .u8 (E.l[i].1:Int))∧W.cell? ⟨lb,lo+i*3+2,none⟩=some (.string E.l[i].2.2)):=Hd fun W hk=>by
  have hc:=(hi.st W hk).cells
  exact ⟨by rw [hc.1,hfv],by rw [hc.2.1,hlv],(hfp W hk p hp).1,(hfp W hk p hp).2,(hlp W hk i hil).1,(hlp W hk i hil).2⟩
 have hal:alikeP E.f E.l p i=(E.f[p].1 == E.l[i].1&&decide (E.f[p].2.2=E.l[i].2.2)):=by
  unfold alikeP
  rw [List.getElem?_eq_getElem hp,List.getElem?_eq_getElem hil]
 have HAL:=Hd hal
 have C2:=Hd (fun W (hk:KeptX E w W) h (hh:h<E.hs.length)=>gV E W ((hi.st.keep hk).now) ok.hn h hh)
 have HI:=Hd hi
 have hp0:(0:Int)≤(p:Int):=by omega
 have hpl:(p:Int)<E.f.length:=by omega
 have hi0:(0:Int)≤(i:Int):=by omega
 have hill:(i:Int)<E.l.length:=by omega
 have hhn:=ok.hn
 have hll:=ok.ll
 have hfl:=ok.fl
 have hwp:IntKind.i64.wrap ((p:Int)+1)=(p:Int)+1:=by rw [IntKind.wrap_i64];omega
 have hwi:IntKind.i64.wrap ((i:Int)+1)=(i:Int)+1:=by rw [IntKind.wrap_i64];omega
 have HO2:=Hd ho2
 clear hi ht ho1 ho2 ho hfw hlw hgf hgl hJ hM hn hal hfv hlv hxv hev hfp hlp hxp hep
 generalize E.f[p].1=kp at *
 generalize E.f[p].2.2=sp at *
 generalize E.l[i].1=kl at *
 generalize E.l[i].2.2=sl at *
 generalize zA E.f p=zf at *
 generalize zA E.l i=zl at *
 cases o with
 | none =>
  go_enter Tryz.func97,Tryz.ntmps97
  go_wp2_with fail
  refine C1.out.mono ?_
  intro e w1 h1
  unfold holePost at h1
  obtain ⟨rfl,m,rfl⟩:=h1
  unfold holeZ
  obtain ⟨c0,c1,f0,f2,l0,l2⟩:=HF.out w (KeptX.refl E w)
  by_cases hkk:kp=kl
  ·have g1:((kp:Int) != (kl:Int))=false:=by rw [bne_eq_false_iff_eq];omega
   have g3:(kp != kl)=false:=by rw [bne_eq_false_iff_eq];exact hkk
   have g5:(kp == kl)=true:=by rw [beq_iff_eq];exact hkk
   by_cases hss:sp=sl
   ·have g2:(sp.toList != sl.toList)=false:=by rw [hss,bne_eq_false_iff_eq]
    have g4:(sp.toList == sl.toList)=true:=by rw [hss,beq_iff_eq]
    have hh:=HAL.out
    rw [hkk,hss] at hh
    simp only [beq_self_eq_true,decide_true,Bool.and_self] at hh
    rw [hh,if_pos rfl] at HQ
    clear hh hkk hss
    go_wp2_with fail
    go_quiet (fail)
    clear c0 c1 f0 f2 l0 l2 g1
    go_wp2_with fail
    go_region_held3 (fun W=>W.cell? ⟨E.g,2,none⟩=some (.slice (some ⟨xb,xo,none⟩) E.f.length xc)∧W.cell? ⟨xb,xo+p,none⟩=some (.int .i64 (zf:Int))∧W.cell? ⟨E.g,3,none⟩=some (.slice (some ⟨eb,eo,none⟩) E.l.length ec)∧W.cell? ⟨eb,eo+i,none⟩=some (.int .i64 (zl:Int))∧RowKit.Hid (KeptX E w W)) (first | exact HS.out _ ((KeptX.drewN E w m).trans (KeptX.drewN E _ (nq+1))) | exact HS.out _ (KeptX.drewN E w (m+nq+1)) | exact HS.out _ ((KeptX.drewN E w (m+nq+1)).trans hk6)) ((go_at_call 119;(with_reducible refine (CK.out _ (KeptX.drewN E w (m+nq+1)) (HI.out.drewN (m+nq+1))).mono ?_);(intro e w6 h6;obtain ⟨v,rfl⟩:=h6.bool;have hk6:=h6.out.1);(try dsimp only)))
    all_goals
     have HX:=Hd (HQ.out _ _ (h6.from (KeptX.drewN E w (m+nq+1))))
     clear h6
     go_wp2_with fail
     exact HX.out
   ·have g2:(sp.toList != sl.toList)=true:=by rw [bne_iff_ne];exact zBg hss
    have g4:(sp.toList == sl.toList)=false:=by rw [beq_eq_false_iff_ne];exact zBg hss
    have hh:=HAL.out
    rw [decide_eq_false hss,Bool.and_false] at hh
    rw [hh,if_neg (by simp)] at HQ
    have HX:=Hd (fun k=>HQ.out _ _ (seekPost.no rfl ((KeptX.drewN E w m).trans (KeptX.drewN E _ k)) ((HI.out.drewN m).drewN k)))
    clear hh hkk hss
    go_wp2_with fail
    go_quiet (fail)
    go_wp2_with fail
    exact HX.out _
  ·have g1:((kp:Int) != (kl:Int))=true:=by rw [bne_iff_ne];omega
   have g3:(kp != kl)=true:=by rw [bne_iff_ne];exact hkk
   have g5:(kp == kl)=false:=by rw [beq_eq_false_iff_ne];exact hkk
   have hh:=HAL.out
   rw [show (kp == kl)=false by rw [beq_eq_false_iff_ne];exact hkk,Bool.false_and] at hh
   rw [hh,if_neg (by simp)] at HQ
   have HX:=Hd (fun k=>HQ.out _ _ (seekPost.no rfl ((KeptX.drewN E w m).trans (KeptX.drewN E _ k)) ((HI.out.drewN m).drewN k)))
   clear hh hkk
   go_wp2_with fail
   go_quiet (fail)
   go_wp2_with fail
   exact HX.out _
 | some h =>
  obtain ⟨hh,hsv⟩:=HO2.out h rfl
  have hh0:(0:Int)≤(h:Int):=by omega
  go_enter Tryz.func97,Tryz.ntmps97
  go_wp2_with fail
  refine C1.out.mono ?_
  intro e w1 h1
  unfold holePost at h1
  obtain ⟨rfl,m,rfl⟩:=h1
  unfold holeZ
  go_wp2_with fail
  refine (C2.out _ (KeptX.drewN E w m) h hh).mono ?_
  rw [hsv]
  rintro e w2 ⟨rfl,rfl⟩
  obtain ⟨c0,c1,f0,f2,l0,l2⟩:=HF.out w (KeptX.refl E w)
  by_cases hkk:kp=kl
  ·have g1:((kp:Int) != (kl:Int))=false:=by rw [bne_eq_false_iff_eq];omega
   have g3:(kp != kl)=false:=by rw [bne_eq_false_iff_eq];exact hkk
   have g5:(kp == kl)=true:=by rw [beq_iff_eq];exact hkk
   by_cases hss:sp=sl
   ·have g2:(sp.toList != sl.toList)=false:=by rw [hss,bne_eq_false_iff_eq]
    have g4:(sp.toList == sl.toList)=true:=by rw [hss,beq_iff_eq]
    have hh:=HAL.out
    rw [hkk,hss] at hh
    simp only [beq_self_eq_true,decide_true,Bool.and_self] at hh
    rw [hh,if_pos rfl] at HQ
    clear hh hkk hss
    go_wp2_with fail
    go_quiet (fail)
    clear c0 c1 f0 f2 l0 l2 g1
    go_wp2_with fail
    go_region_held3 (fun W=>W.cell? ⟨E.g,2,none⟩=some (.slice (some ⟨xb,xo,none⟩) E.f.length xc)∧W.cell? ⟨xb,xo+p,none⟩=some (.int .i64 (zf:Int))∧W.cell? ⟨E.g,3,none⟩=some (.slice (some ⟨eb,eo,none⟩) E.l.length ec)∧W.cell? ⟨eb,eo+i,none⟩=some (.int .i64 (zl:Int))∧RowKit.Hid (KeptX E w W)) (first | exact HS.out _ ((KeptX.drewN E w m).trans (KeptX.drewN E _ (nq+1))) | exact HS.out _ (KeptX.drewN E w (m+nq+1)) | exact HS.out _ ((KeptX.drewN E w (m+nq+1)).trans hk6)) ((go_at_call 119;(with_reducible refine (CK.out _ (KeptX.drewN E w (m+nq+1)) (HI.out.drewN (m+nq+1))).mono ?_);(intro e w6 h6;obtain ⟨v,rfl⟩:=h6.bool;have hk6:=h6.out.1);(try dsimp only)))
    all_goals
     have HX:=Hd (HQ.out _ _ (h6.from (KeptX.drewN E w (m+nq+1))))
     clear h6
     go_wp2_with fail
     exact HX.out
   ·have g2:(sp.toList != sl.toList)=true:=by rw [bne_iff_ne];exact zBg hss
    have g4:(sp.toList == sl.toList)=false:=by rw [beq_eq_false_iff_ne];exact zBg hss
    have hh:=HAL.out
    rw [decide_eq_false hss,Bool.and_false] at hh
    rw [hh,if_neg (by simp)] at HQ
    have HX:=Hd (fun k=>HQ.out _ _ (seekPost.no rfl ((KeptX.drewN E w m).trans (KeptX.drewN E _ k)) ((HI.out.drewN m).drewN k)))
    clear hh hkk hss
    go_wp2_with fail
    go_quiet (fail)
    go_wp2_with fail
    exact HX.out _
  ·have g1:((kp:Int) != (kl:Int))=true:=by rw [bne_iff_ne];omega
   have g3:(kp != kl)=true:=by rw [bne_iff_ne];exact hkk
   have g5:(kp == kl)=false:=by rw [beq_eq_false_iff_ne];exact hkk
   have hh:=HAL.out
   rw [show (kp == kl)=false by rw [beq_eq_false_iff_ne];exact hkk,Bool.false_and] at hh
   rw [hh,if_neg (by simp)] at HQ
   have HX:=Hd (fun k=>HQ.out _ _ (seekPost.no rfl ((KeptX.drewN E w m).trans (KeptX.drewN E _ k)) ((HI.out.drewN m).drewN k)))
   clear hh hkk
   go_wp2_with fail
   go_quiet (fail)
   go_wp2_with fail
   exact HX.out _
end Go.Proofs.YtfalelkfhandfaaGreatDoor
namespace Go.Proofs.YtfalelkfhandfaaGreatDoor
set_option linter.all false
attribute [local irreducible] Calls
open Go.RowKit

structure BoxAt (E:SkE) (w:World) (b:Nat) (v:Value):Prop where
 c:w.cell? ⟨b,0,none⟩=some v
 l:b<w.heap.size
 nb:some b≠E.vb.ownBlock
 nz:some b≠E.vz.ownBlock
theorem BoxAt.keep {E:SkE} {w w':World} {b:Nat} {v:Value} (h:BoxAt E w b v) (k:KeptX E w w'):BoxAt E w' b v :=
 ⟨by rw [k.cell h.l h.nb h.nz];exact h.c,Nat.lt_of_lt_of_le h.l k.size,h.nb,h.nz⟩
set_option maxRecDepth 100000 in
set_option maxHeartbeats 16000000 in
theorem zUb (E:SkE) (ok:SkOK E) (n:Nat) (IH:KidsC E n) (w0:World) (st:SkStat E w0) (p pend i iend:Nat) (K:MSt→Option MSt) (tv:Value) (ht:ThenOK E K tv w0) (b6 b7 b8 b9 b10 b11:Nat)
  (h6:BoxAt E w0 b6 (.pointer (some ⟨E.g,0,none⟩))) (h7:BoxAt E w0 b7 (.int .i64 (p:Int))) (h8:BoxAt E w0 b8 (.int .i64 (pend:Int))) (h9:BoxAt E w0 b9 (.int .i64 (i:Int))) (h10:BoxAt E w0 b10 (.int .i64 (iend:Int))) (h11:BoxAt E w0 b11 tv)
  (hp:p<E.f.length) (hil:i<E.l.length) (J M:Nat) (hpe:pend≤E.f.length) (hJ:advT E.f J (zA E.f p) pend=some pend) (hie:iend≤E.l.length) (hM:advT E.l M (zA E.l i) iend=some iend) (hn:2*(pend-zA E.f p)+1≤n) :
  ThenOK E (sKids E.f E.l E.hs n (zA E.f p) pend (zA E.l i) iend K) (.func (.func 132) #[] #[.pointer (some ⟨b6,0,none⟩),.pointer (some ⟨b7,0,none⟩),.pointer (some ⟨b8,0,none⟩),.pointer (some ⟨b9,0,none⟩),.pointer (some ⟨b10,0,none⟩),.pointer (some ⟨b11,0,none⟩)]) w0:=by
 refine ⟨_,_,rfl,kH Tryz.func132 (by kernel_rfl) rfl,fun w σ hk hi=>?_⟩
 obtain ⟨Q,hQ⟩:∃ Q,seekPost E (sKids E.f E.l E.hs n (zA E.f p) pend (zA E.l i) iend K σ) σ w=Q:=⟨_,rfl⟩
 have HQ:RowKit.Hid (∀ e w',seekPost E (sKids E.f E.l E.hs n (zA E.f p) pend (zA E.l i) iend K σ) σ w e w'→Q e w'):=Hd fun e w' h=>by rw [← hQ];exact h
 rw [hQ]
 clear hQ
 have CK:=Hd (fun W (hk:KeptX E w W) (hs:SkIn E σ W)=>IH W σ (zA E.f p) pend (zA E.l i) iend K tv J M hs hpe hJ hie hM hn ((ht.keep (by assumption)).keep hk))
 obtain ⟨xb,xo,xc,hxv,hxc,hxp⟩:=hi.st.ends (L:=E.f) (v:=E.vfe) (fun w' hk=>(hi.st w' hk).fe) (by omega)
 obtain ⟨eb,eo,ec,hev,hec,hep⟩:=hi.st.ends (L:=E.l) (v:=E.ve) (fun w' hk=>(hi.st w' hk).e) (by omega)
 have HS:RowKit.Hid (∀ W,KeptX E w W→W.cell? ⟨b6,0,none⟩=some (.pointer (some ⟨E.g,0,none⟩))∧W.cell? ⟨b7,0,none⟩=some (.int .i64 (p:Int))∧W.cell? ⟨b8,0,none⟩=some (.int .i64 (pend:Int))∧W.cell? ⟨b9,0,none⟩=some (.int .i64 (i:Int))∧W.cell? ⟨b10,0,none⟩=some (.int .i64 (iend:Int))∧W.cell? ⟨b11,0,none⟩=some tv∧W.cell? ⟨E.g,2,none⟩=some (.slice (some ⟨xb,xo,none⟩) E.f.length xc)∧W.cell? ⟨xb,xo+p,none⟩=some (.int .i64 (zA E.f p:Int))∧W.cell? ⟨E.g,3,none⟩=some (.slice (some ⟨eb,eo,none⟩) E.l.length ec)∧W.cell? ⟨eb,eo+i,none⟩=some (.int .i64 (zA E.l i:Int))∧RowKit.Hid (KeptX E w W)):=Hd fun W hW=>by
  have hc:=(hi.st W hW).cells
  have hkw:=hk.trans hW
  exact ⟨(h6.keep hkw).c,(h7.keep hkw).c,(h8.keep hkw).c,(h9.keep hkw).c,(h10.keep hkw).c,(h11.keep hkw).c,by rw [hc.2.2.1,hxv],hxp W hW p hp,by rw [hc.2.2.2.1,hev],hep W hW i hil,Hd hW⟩
 have HI:=Hd hi
 have hp0:(0:Int)≤(p:Int):=by omega
 have hpl:(p:Int)<E.f.length:=by omega
 have hi0:(0:Int)≤(i:Int):=by omega
 have hill:(i:Int)<E.l.length:=by omega
 have hll:=ok.ll
 have hfl:=ok.fl
 clear hk hi h6 h7 h8 h9 h10 h11 ht hxv hev hxp hep hJ hM hn
 generalize zA E.f p=zf at *
 generalize zA E.l i=zl at *
 go_enter Tryz.func132,Tryz.ntmps132
 go_wp2_with fail
 go_region_held3 (fun W=>W.cell? ⟨b6,0,none⟩=some (.pointer (some ⟨E.g,0,none⟩))∧W.cell? ⟨b7,0,none⟩=some (.int .i64 (p:Int))∧W.cell? ⟨b8,0,none⟩=some (.int .i64 (pend:Int))∧W.cell? ⟨b9,0,none⟩=some (.int .i64 (i:Int))∧W.cell? ⟨b10,0,none⟩=some (.int .i64 (iend:Int))∧W.cell? ⟨b11,0,none⟩=some tv∧W.cell? ⟨E.g,2,none⟩=some (.slice (some ⟨xb,xo,none⟩) E.f.length xc)∧W.cell? ⟨xb,xo+p,none⟩=some (.int .i64 (zf:Int))∧W.cell? ⟨E.g,3,none⟩=some (.slice (some ⟨eb,eo,none⟩) E.l.length ec)∧W.cell? ⟨eb,eo+i,none⟩=some (.int .i64 (zl:Int))∧RowKit.Hid (KeptX E w W)) (first | exact HS.out _ (KeptX.drew E w) | exact HS.out _ ((KeptX.drew E w).trans hk6)) ((go_at_call 119;(with_reducible refine (CK.out _ (KeptX.drew E w) (HI.out.below (Below.refl _ _).drew)).mono ?_);(intro e w6 h6;obtain ⟨v,rfl⟩:=h6.bool;have hk6:=h6.out.1);(try dsimp only)))
 all_goals
  have HX:=Hd (HQ.out _ _ (h6.from (KeptX.drew E w)))
  clear h6
  go_wp2_with fail
  exact HX.out
set_option maxRecDepth 100000 in
set_option maxHeartbeats 16000000 in
theorem zUc (E:SkE) (ok:SkOK E) (n:Nat) (IH:KidsC E n) (w0:World) (st:SkStat E w0) (p pend i iend:Nat) (K:MSt→Option MSt) (tv:Value) (ht:ThenOK E K tv w0) (b6 b7 b8 b9 b10 b11:Nat)
  (h6:BoxAt E w0 b6 (.pointer (some ⟨E.g,0,none⟩))) (h7:BoxAt E w0 b7 (.int .i64 (p:Int))) (h8:BoxAt E w0 b8 (.int .i64 (pend:Int))) (h9:BoxAt E w0 b9 (.int .i64 (i:Int))) (h10:BoxAt E w0 b10 (.int .i64 (iend:Int))) (h11:BoxAt E w0 b11 tv)
  (hp:p<E.f.length) (J M:Nat) (hpe:pend≤E.f.length) (hJ:advT E.f J (zA E.f p) pend=some pend) (hie:iend≤E.l.length) (hM:advT E.l M i iend=some iend) (hn:2*(pend-zA E.f p)+1≤n) :
  ThenOK E (sKids E.f E.l E.hs n (zA E.f p) pend i iend K) (.func (.func 133) #[] #[.pointer (some ⟨b6,0,none⟩),.pointer (some ⟨b7,0,none⟩),.pointer (some ⟨b8,0,none⟩),.pointer (some ⟨b9,0,none⟩),.pointer (some ⟨b10,0,none⟩),.pointer (some ⟨b11,0,none⟩)]) w0:=by
 refine ⟨_,_,rfl,kH Tryz.func133 (by kernel_rfl) rfl,fun w σ hk hi=>?_⟩
 obtain ⟨Q,hQ⟩:∃ Q,seekPost E (sKids E.f E.l E.hs n (zA E.f p) pend i iend K σ) σ w=Q:=⟨_,rfl⟩
 have HQ:RowKit.Hid (∀ e w',seekPost E (sKids E.f E.l E.hs n (zA E.f p) pend i iend K σ) σ w e w'→Q e w'):=Hd fun e w' h=>by rw [← hQ];exact h
 rw [hQ]
 clear hQ
 have CK:=Hd (fun W (hk:KeptX E w W) (hs:SkIn E σ W)=>IH W σ (zA E.f p) pend i iend K tv J M hs hpe hJ hie hM hn ((ht.keep (by assumption)).keep hk))
 obtain ⟨xb,xo,xc,hxv,hxc,hxp⟩:=hi.st.ends (L:=E.f) (v:=E.vfe) (fun w' hk=>(hi.st w' hk).fe) (by omega)
 have HS:RowKit.Hid (∀ W,KeptX E w W→W.cell? ⟨b6,0,none⟩=some (.pointer (some ⟨E.g,0,none⟩))∧W.cell? ⟨b7,0,none⟩=some (.int .i64 (p:Int))∧W.cell? ⟨b8,0,none⟩=some (.int .i64 (pend:Int))∧W.cell? ⟨b9,0,none⟩=some (.int .i64 (i:Int))∧W.cell? ⟨b10,0,none⟩=some (.int .i64 (iend:Int))∧W.cell? ⟨b11,0,none⟩=some tv∧W.cell? ⟨E.g,2,none⟩=some (.slice (some ⟨xb,xo,none⟩) E.f.length xc)∧W.cell? ⟨xb,xo+p,none⟩=some (.int .i64 (zA E.f p:Int))∧RowKit.Hid (KeptX E w W)):=Hd fun W hW=>by
  have hc:=(hi.st W hW).cells
  have hkw:=hk.trans hW
  exact ⟨(h6.keep hkw).c,(h7.keep hkw).c,(h8.keep hkw).c,(h9.keep hkw).c,(h10.keep hkw).c,(h11.keep hkw).c,by rw [hc.2.2.1,hxv],hxp W hW p hp,Hd hW⟩
 have HI:=Hd hi
 have hp0:(0:Int)≤(p:Int):=by omega
 have hpl:(p:Int)<E.f.length:=by omega
 have hll:=ok.ll
 have hfl:=ok.fl
 clear hk hi h6 h7 h8 h9 h10 h11 ht hxv hxp hJ hM hn
 generalize zA E.f p=zf at *
 go_enter Tryz.func133,Tryz.ntmps133
 go_wp2_with fail
 go_region_held3 (fun W=>W.cell? ⟨b6,0,none⟩=some (.pointer (some ⟨E.g,0,none⟩))∧W.cell? ⟨b7,0,none⟩=some (.int .i64 (p:Int))∧W.cell? ⟨b8,0,none⟩=some (.int .i64 (pend:Int))∧W.cell? ⟨b9,0,none⟩=some (.int .i64 (i:Int))∧W.cell? ⟨b10,0,none⟩=some (.int .i64 (iend:Int))∧W.cell? ⟨b11,0,none⟩=some tv∧W.cell? ⟨E.g,2,none⟩=some (.slice (some ⟨xb,xo,none⟩) E.f.length xc)∧W.cell? ⟨xb,xo+p,none⟩=some (.int .i64 (zf:Int))∧RowKit.Hid (KeptX E w W)) (first | exact HS.out _ (KeptX.drew E w) | exact HS.out _ ((KeptX.drew E w).trans hk6)) ((go_at_call 119;(with_reducible refine (CK.out _ (KeptX.drew E w) (HI.out.below (Below.refl _ _).drew)).mono ?_);(intro e w6 h6;obtain ⟨v,rfl⟩:=h6.bool;have hk6:=h6.out.1);(try dsimp only)))
 all_goals
  have HX:=Hd (HQ.out _ _ (h6.from (KeptX.drew E w)))
  clear h6
  go_wp2_with fail
  exact HX.out
end Go.Proofs.YtfalelkfhandfaaGreatDoor
