/- Maps from strings to ints that a call makes: what stands at a key. -/
import Derived.Test.YtfalelkfhandfaaGreatDoorCoreMq
import Derived.Maps.OwnSet
import Derived.Test.YtfalelkfhandfaaGreatDoorFindPMq
import Derived.Test.YtfalelkfhandfaaGreatDoorAppEqMq
import Derived.Deep.QuietTactic
import Derived.BigQuiet
import Derived.Deep.Cut
import Derived.Test.YtfalelkfhandfaaGreatDoorPackMq
import Derived.Test.YtfalelkfhandfaaGreatDoorScanPMq
import Derived.Test.YtfalelkfhandfaaGreatDoorStillMq
import Derived.Deep.RegionHeld3
import Derived.Test.YtfalelkfhandfaaGreatDoorFindQMq
namespace Go.Proofs.YtfalelkfhandfaaGreatDoor
set_option linter.all false
open Go.RowKit Go.Maps Go.WideShapes Go.WideMaps

theorem Tkey:Keyed Tryz.prog 9:=string_keyed Tryz.underlying9
theorem zGs (w:World):(zeroValue 3).run Tryz.prog w=.ok (.int .i64 0) w:=by kernel_rfl
def keyS (s:ByteArray):Lit:=.string s.data.toList
theorem zKi {s x:ByteArray} (h:keyS s=keyS x):s=x:=by
 unfold keyS at h
 simp only [Lit.string.injEq] at h
 exact ByteArray.ext (Array.ext' h)
theorem zIe {s:ByteArray} (hs:s.size≤maxLen):keyOf Tryz.prog 9 (.string s)=some (keyS s):=keyOf_string_mk Tryz.underlying9 hs
def MapIs (w:World) (b n:Nat) (M:ByteArray→Option Int):Prop :=
 ∃ D:DataW Unit,w.ownsMap Tryz.prog 9 (plainElem Tryz.prog 3) b n D∧∀ s:ByteArray,s.size≤maxLen→Maps.has D (keyS s)=(M s).isSome∧D.atKey (keyS s) (.lit (.int .i64 0))=.lit (.int .i64 ((M s).getD 0))
theorem MapIs.made (w:World):MapIs (w.alloc (.map #[] 0)) w.heap.size 0 (fun _=>none):=⟨_,World.ownsMap_made _ _ _ _,fun s _=>⟨rfl,rfl⟩⟩
theorem MapIs.get {w:World} {b n:Nat} {M:ByteArray→Option Int} (h:MapIs w b n M) (s:ByteArray) (hs:s.size≤maxLen):(Instr.lookup 110 (.map (some b)) (.string s) false).run Tryz.prog w=.ok (.int .i64 ((M s).getD 0)) w:=by
 obtain ⟨D,hown,hD⟩:=h
 obtain ⟨c,hrun,hat,_⟩:=hown.lookup_int Tkey Tryz.underlying110 Tryz.underlying3 (zGs _) (zIe hs)
 rw [(hD s hs).2] at hat
 simp only [DataW.lit.injEq,Lit.int.injEq,true_and] at hat
 rw [hrun,hat]
theorem MapIs.ok {w:World} {b n:Nat} {M:ByteArray→Option Int} (h:MapIs w b n M) (s:ByteArray) (hs:s.size≤maxLen):(Instr.lookup 110 (.map (some b)) (.string s) true).run Tryz.prog w=.ok (.tuple #[.int .i64 ((M s).getD 0),.bool (M s).isSome]) w:=by
 obtain ⟨D,hown,hD⟩:=h
 obtain ⟨v,ps,hrun,hv⟩:=hown.look_ok Tkey Tryz.underlying110 (zGs _) (plainElem_int Tryz.underlying3 (by decide)) (zIe hs)
 obtain ⟨c,rfl,hc,_⟩:=plainElem_int_inv Tryz.underlying3 hv
 have hat:=congrArg Prod.fst hc
 rw [(hD s hs).2] at hat
 simp only [DataW.lit.injEq,Lit.int.injEq,true_and] at hat
 rw [hrun,(hD s hs).1,hat]
theorem MapIs.put {w:World} {b n:Nat} {M:ByteArray→Option Int} (h:MapIs w b n M) (hn:n<maxLen) (s:ByteArray) (hs:s.size≤maxLen) (c:Int) (hc:(Lit.int .i64 c).wf=true) :
  ∃ w',(Instr.mapUpdate 110 (.map (some b)) (.string s) (.int .i64 c)).run Tryz.prog w=.ok () w'∧MapIs w' b (n+1) (fun x=>if x=s then some c else M x)∧w.grownBy w' (some b):=by
 obtain ⟨D,hown,hD⟩:=h
 obtain ⟨w',hrun,hown',hg⟩:=hown.update Tkey Tryz.underlying110 hn (zIe hs) (plainElem_int Tryz.underlying3 hc)
 refine ⟨w',hrun,⟨_,hown',fun x hx=>?_⟩,hg⟩
 by_cases e:x=s
 ·subst e
  show Maps.has _ _=(if x=x then some c else M x).isSome∧DataW.atKey _ _ _=.lit (.int .i64 ((if x=x then some c else M x).getD 0))
  rw [if_pos rfl]
  exact ⟨has_put_same hown.isMap (show Go.WideAt.IsKeyLit (keyS x) by unfold keyS;trivial) _,atKey_put_same hown.isMap (show Go.WideAt.IsKeyLit (keyS x) by unfold keyS;trivial) _ _⟩
 ·show Maps.has _ _=(if x=s then some c else M x).isSome∧DataW.atKey _ _ _=.lit (.int .i64 ((if x=s then some c else M x).getD 0))
  rw [if_neg e,has_put_other (fun h=>e (zKi h)),atKey_put_other (fun h=>e (zKi h))]
  exact hD x hx
theorem MapIs.keep {w w':World} {b n:Nat} {M:ByteArray→Option Int} (h:MapIs w b n M) {row:Option Nat} (hg:w.grownBy w' row) (hne:some b≠row):MapIs w' b n M:=by
 obtain ⟨D,hown,hD⟩:=h
 exact ⟨D,hown.kept hg hne,hD⟩
theorem MapIs.same {w w':World} {b n:Nat} {M:ByteArray→Option Int} (h:MapIs w b n M) (hb:w'.heap[b]?=w.heap[b]?):MapIs w' b n M:=by
 obtain ⟨D,⟨es,clock,h1,h2⟩,hD⟩:=h
 exact ⟨D,⟨es,clock,by rw [hb];exact h1,h2⟩,hD⟩
theorem MapIs.lt {w:World} {b n:Nat} {M:ByteArray→Option Int} (h:MapIs w b n M):b<w.heap.size:=by
 obtain ⟨D,hown,_⟩:=h
 exact hown.lt
theorem MapIs.below {w w':World} {b n B:Nat} {M:ByteArray→Option Int} (h:MapIs w b n M) (hb:Below B w w') (hB:b<B):MapIs w' b n M:=h.same (hb.block b hB)
end Go.Proofs.YtfalelkfhandfaaGreatDoor
namespace Go.Proofs.YtfalelkfhandfaaGreatDoor
set_option linter.all false
open Go.RowKit

structure SkE where
 f:List Prt
 l:List Prt
 hs:List Hl
 g:Nat
 vf:Value
 vl:Value
 vfe:Value
 ve:Value
 vk:Value
 bm:Nat
 nm:Nat
 vb:Value
 vz:Value
 B:Nat
structure KeptX (E:SkE) (w w':World):Prop where
 os:w'.os=w.os
 tape:w'.tape=w.tape
 output:w'.output=w.output
 size:w.heap.size≤w'.heap.size
 block:∀ k,k<w.heap.size→some k≠E.vb.ownBlock→some k≠E.vz.ownBlock→w'.heap[k]?=w.heap[k]?
theorem KeptX.refl (E:SkE) (w:World):KeptX E w w:=⟨rfl,rfl,rfl,Nat.le_refl _,fun _ _ _ _=>rfl⟩
theorem KeptX.trans {E:SkE} {a b c:World} (h:KeptX E a b) (k:KeptX E b c):KeptX E a c :=
 ⟨k.os.trans h.os,k.tape.trans h.tape,k.output.trans h.output,Nat.le_trans h.size k.size,fun i hi h1 h2=>(k.block i (Nat.lt_of_lt_of_le hi h.size) h1 h2).trans (h.block i hi h1 h2)⟩
theorem KeptX.of_below {E:SkE} {w w':World} (h:Below w.heap.size w w'):KeptX E w w':=⟨h.os,h.tape,h.output,h.size,fun k hk _ _=>h.block k hk⟩
theorem KeptX.drewN (E:SkE) (w:World) (n:Nat):KeptX E w (w.drewN n):=KeptX.of_below (drewB (Below.refl _ _) n)
theorem KeptX.drew (E:SkE) (w:World):KeptX E w w.drew:=KeptX.of_below (Below.refl _ _).drew
theorem KeptX.alloc (E:SkE) (w:World) (o:Obj):KeptX E w (w.alloc o):=KeptX.of_below ((Below.refl _ _).alloc (Nat.le_refl _) _)
theorem KeptX.cell {E:SkE} {w w':World} (h:KeptX E w w') {k o:Nat} (hk:k<w.heap.size) (h1:some k≠E.vb.ownBlock) (h2:some k≠E.vz.ownBlock):w'.cell? ⟨k,o,none⟩=w.cell? ⟨k,o,none⟩:=by
 simp only [World.cell?,h.block k hk h1 h2]
def holeM (hs:List Hl) (s:ByteArray):Option Int:=(hs.findIdx? fun h=>decide (s=h.1)).map fun (n:Nat)=>(n:Int)
def kindsI (hs:List Hl):List Int:=hs.map fun h=>(h.2:Int)
structure SkFix (E:SkE) (w:World):Prop where
 s:w.heap[E.g]?=some (.cells #[E.vf,E.vl,E.vfe,E.ve,.map (some E.bm),E.vk,E.vb,E.vz] 147 (0,0))
 f:zG w E.vf E.f
 l:zG w E.vl E.l
 fe:zK w E.vfe .i64 (endsL E.f)
 e:zK w E.ve .i64 (endsL E.l)
 m:MapIs w E.bm E.nm (holeM E.hs)
 k:zK w E.vk .u8 (kindsI E.hs)
def SkStat (E:SkE) (w:World):Prop:=∀ w',KeptX E w w'→SkFix E w'
theorem SkStat.keep {E:SkE} {w w':World} (h:SkStat E w) (k:KeptX E w w'):SkStat E w':=fun x hx=>h x (k.trans hx)
theorem SkStat.now {E:SkE} {w:World} (h:SkStat E w):SkFix E w:=h w (KeptX.refl _ _)
def boundV (σ:MSt):List Value:=σ.map fun o=>.bool o.isSome
structure SkIn (E:SkE) (σ:MSt) (w:World):Prop where
 st:SkStat E w
 b:w.ownsRow E.B 52 3 E.vb E.hs.length (bindsV (bindsOf E.hs σ))
 z:w.ownsRow E.B 4 1 E.vz E.hs.length (boundV σ)
 n:σ.length=E.hs.length
 r:∀ (h:Nat) (q:Nat×Nat),σ[h]?=some (some q)→q.1≤q.2∧q.2≤E.l.length
structure SkOK (E:SkE):Prop where
 hf:xN E.f E.hs
 hl:zZ E.l=true
 fl:E.f.length≤1048576
 ll:E.l.length≤1048576
 hn:E.hs.length≤1048576
 hk:∀ x∈E.hs,x.2<256∧x.1.size≤1048576
 fk:SmallL E.f
 lk:SmallL E.l
 ne:E.vb.ownBlock=none∨E.vb.ownBlock≠E.vz.ownBlock
 nb:some E.g≠E.vb.ownBlock∧some E.g≠E.vz.ownBlock
@[irreducible] def seekPost (E:SkE) (o:Option MSt) (σ:MSt) (w:World) (e:Ending) (w':World):Prop :=
 KeptX E w w'∧match o with
  | some τ=>e=.returned (.bool true)∧SkIn E τ w'
  | none=>e=.returned (.bool false)∧SkIn E σ w'
theorem seekPost.yes {E:SkE} {o:Option MSt} {σ τ:MSt} {w w':World} (ho:o=some τ) (h:KeptX E w w') (hi:SkIn E τ w'):seekPost E o σ w (.returned (.bool true)) w':=by
 unfold seekPost;rw [ho];exact ⟨h,rfl,hi⟩
theorem seekPost.no {E:SkE} {o:Option MSt} {σ:MSt} {w w':World} (ho:o=none) (h:KeptX E w w') (hi:SkIn E σ w'):seekPost E o σ w (.returned (.bool false)) w':=by
 unfold seekPost;rw [ho];exact ⟨h,rfl,hi⟩
theorem seekPost.out {E:SkE} {o:Option MSt} {σ:MSt} {w w':World} {e:Ending} (h:seekPost E o σ w e w'):KeptX E w w'∧((∃ τ,o=some τ∧e=.returned (.bool true)∧SkIn E τ w')∨(o=none∧e=.returned (.bool false)∧SkIn E σ w')):=by
 unfold seekPost at h
 cases o with
 | some τ=>exact ⟨h.1,Or.inl ⟨τ,rfl,h.2⟩⟩
 | none=>exact ⟨h.1,Or.inr ⟨rfl,h.2⟩⟩
theorem seekPost.from {E:SkE} {o:Option MSt} {σ:MSt} {w0 w w':World} {e:Ending} (h:seekPost E o σ w e w') (k:KeptX E w0 w):seekPost E o σ w0 e w':=by
 unfold seekPost at h ⊢
 exact ⟨k.trans h.1,h.2⟩
theorem kH {f : FuncId} {fn : Func} {c : Code} (hf : Tryz.prog.funcs[f]? = some fn) (hname : (fn.name == "runtime.NumGoroutine") = false) (hb : fn.body = some c) (args : Array Value) (w : World) :
  (callFunc f args).run Tryz.prog w=.ok (.enter f args) w:=by
 have h1 : fn.name ≠ "runtime.NumGoroutine" := by simpa using hname
 simp [callFunc,hf,h1,hb]
def ThenOK (E:SkE) (K:MSt→Option MSt) (tv:Value) (w0:World):Prop :=
 ∃ k cap,tv=.func (.func k) #[] cap∧(∀ args w,(callFunc k args).run Tryz.prog w=.ok (.enter k args) w)∧∀ w σ,KeptX E w0 w→SkIn E σ w→Calls Tryz.prog k cap w (seekPost E (K σ) σ w)
theorem ThenOK.keep {E:SkE} {K:MSt→Option MSt} {tv:Value} {w w':World} (h:ThenOK E K tv w) (k:KeptX E w w'):ThenOK E K tv w':=by
 obtain ⟨n,cap,e,hr,hc⟩:=h
 exact ⟨n,cap,e,hr,fun x σ hx=>hc x σ (k.trans hx)⟩
theorem SkIn.below {E:SkE} {σ:MSt} {w w':World} (h:SkIn E σ w) (hb:Below w.heap.size w w'):SkIn E σ w' :=
 ⟨h.st.keep (KeptX.of_below hb),zL h.b hb,zL h.z hb,h.n,h.r⟩
theorem SkIn.drewN {E:SkE} {σ:MSt} {w:World} (h:SkIn E σ w) (n:Nat):SkIn E σ (w.drewN n):=h.below (drewB (Below.refl _ _) n)
theorem SkFix.cells {E:SkE} {w:World} (h:SkFix E w):w.cell? ⟨E.g,0,none⟩=some E.vf∧w.cell? ⟨E.g,1,none⟩=some E.vl∧w.cell? ⟨E.g,2,none⟩=some E.vfe∧w.cell? ⟨E.g,3,none⟩=some E.ve∧w.cell? ⟨E.g,4,none⟩=some (.map (some E.bm))∧w.cell? ⟨E.g,5,none⟩=some E.vk∧w.cell? ⟨E.g,6,none⟩=some E.vb∧w.cell? ⟨E.g,7,none⟩=some E.vz:=by
 simp only [World.cell?,h.s]
 exact ⟨rfl,rfl,rfl,rfl,rfl,rfl,rfl,rfl⟩
end Go.Proofs.YtfalelkfhandfaaGreatDoor
namespace Go.Proofs.YtfalelkfhandfaaGreatDoor
set_option maxRecDepth 100000
set_option maxHeartbeats 32000000
set_option linter.all false
attribute [local irreducible] Calls
open Go.RowKit

theorem zVt {hole k:Nat} (h1:1≤hole) (h5:hole≤5):mayB hole k=(if hole=1 then decide (26≤k∧k≤48∧k≠38) else if hole=2 then decide (k=26) else if hole=3 then decide (k=27) else if hole=4 then decide (k=26∨(28≤k∧k≤30)∨k=35∨(41≤k∧k≤48)) else decide (49≤k∧k≤68∧k≠62∧k≠64)):=by
 unfold mayB
 by_cases e1:hole=1
 ·rw [if_pos e1,if_pos e1,Bool.eq_iff_iff];simp [and_assoc]
 rw [if_neg e1,if_neg e1]
 by_cases e2:hole=2
 ·rw [if_pos e2,if_pos e2,Bool.eq_iff_iff];simp
 rw [if_neg e2,if_neg e2]
 by_cases e3:hole=3
 ·rw [if_pos e3,if_pos e3,Bool.eq_iff_iff];simp
 rw [if_neg e3,if_neg e3]
 by_cases e4:hole=4
 ·rw [if_pos e4,if_pos e4,Bool.eq_iff_iff];simp [or_assoc]
 rw [if_neg e4,if_neg e4,if_pos (by omega),Bool.eq_iff_iff]
 simp [and_assoc]
theorem zQu (hole k:Nat) (h1:1≤hole) (h5:hole≤5) (hk:k<256) (w:World) :
  Calls Tryz.prog 117 #[.int .u8 (hole:Int),.int .u8 (k:Int)] w fun e w'=>e=.returned (.bool (mayB hole k))∧w=w':=by
 have HQ:Hid (∀ x,mayB hole k=x→(fun (e:Ending) w'=>e=.returned (.bool (mayB hole k))∧w=w') (.returned (.bool x)) w):=Hd fun x h=>⟨by rw [h],rfl⟩
 generalize (fun (e:Ending) w'=>e=.returned (.bool (mayB hole k))∧w=w')=Q at *
 have hh:hole=1∨hole=2∨hole=3∨hole=4∨hole=5:=by omega
 have HV:=Hd (zVt (k:=k) h1 h5)
 clear h1 h5
 rcases hh with rfl | rfl | rfl | rfl | rfl
 all_goals
  go_enter Tryz.func117,Tryz.ntmps117
  go_wp2_with fail
  all_goals
   refine HQ.out _ ?_
   rw [HV.out,Bool.eq_iff_iff]
   first
    | (simp;done)
    | (simp;omega)
end Go.Proofs.YtfalelkfhandfaaGreatDoor
namespace Go.Proofs.YtfalelkfhandfaaGreatDoor
set_option maxRecDepth 100000
set_option maxHeartbeats 32000000
set_option linter.all false
attribute [local irreducible] Calls
open Go.RowKit

theorem SkFix.kind {E:SkE} {w:World} (h:SkFix E w) {k:Nat} (hk:k<E.hs.length):∃ b off cap,E.vk=.slice (some ⟨b,off,none⟩) E.hs.length cap∧E.hs.length≤cap∧w.cell? ⟨b,off+k,none⟩=some (.int .u8 (hkind E.hs k:Int)):=by
 obtain ⟨a,cap,hv,hc,hrow⟩:=h.k.open'
 have hl:(kindsI E.hs).length=E.hs.length:=by unfold kindsI;simp
 obtain ⟨b,off,ha,hlt,hcell⟩:=hrow (by omega)
 refine ⟨b,off,cap,by rw [hv,hl,ha],by omega,?_⟩
 rw [hcell k (by omega)]
 unfold kindsI hkind
 simp [List.getElem?_eq_getElem hk]
theorem gV (E:SkE) (w:World) (hi:SkFix E w) (hl:E.hs.length≤1048576) (k:Nat) (hk:k<E.hs.length) :
  Calls Tryz.prog 116 #[.pointer (some ⟨E.g,0,none⟩),.int .i64 (k:Int)] w fun e w'=>e=.returned (.bool (isSev (hkind E.hs k)))∧w=w':=by
 have HQ:Hid (∀ x,isSev (hkind E.hs k)=x→(fun (e:Ending) w'=>e=.returned (.bool (isSev (hkind E.hs k)))∧w=w') (.returned (.bool x)) w):=Hd fun x h=>⟨by rw [h],rfl⟩
 generalize (fun (e:Ending) w'=>e=.returned (.bool (isSev (hkind E.hs k)))∧w=w')=Q at *
 obtain ⟨b,off,cap,hv,hc,c1⟩:=hi.kind hk
 have c5:=hi.cells.2.2.2.2.2.1
 rw [hv] at c5
 have hk0:(0:Int)≤(k:Int):=by omega
 have hkl:(k:Int)<E.hs.length:=by omega
 have hS:isSev (hkind E.hs k)=(hkind E.hs k == 6 || hkind E.hs k == 7):=rfl
 have HS:=Hd hS
 clear hS hv hi
 generalize hkind E.hs k=x at *
 generalize E.hs.length=n at *
 generalize E.g=g at *
 by_cases h6:x=6
 ·have f1:((x:Int) == 6)=true:=by rw [beq_iff_eq];omega
  have HX:=Hd (HQ.out true (by rw [HS.out,h6];rfl))
  clear h6
  go_enter Tryz.func116,Tryz.ntmps116
  go_wp2_with fail
  exact HX.out
 ·have f1:((x:Int) == 6)=false:=by rw [beq_eq_false_iff_ne];omega
  by_cases h7:x=7
  ·have f2:((x:Int) == 7)=true:=by rw [beq_iff_eq];omega
   have HX:=Hd (HQ.out true (by rw [HS.out,h7];rfl))
   clear h6 h7
   go_enter Tryz.func116,Tryz.ntmps116
   go_wp2_with fail
   exact HX.out
  ·have f2:((x:Int) == 7)=false:=by rw [beq_eq_false_iff_ne];omega
   have HX:=Hd (HQ.out false (by rw [HS.out];simp [h6,h7]))
   clear h6 h7
   go_enter Tryz.func116,Tryz.ntmps116
   go_wp2_with fail
   exact HX.out
theorem zFz (a:Option Addr) (w:World) :
  Calls Tryz.prog 116 #[.pointer a,.int .i64 (-1)] w fun e w'=>e=.returned (.bool false)∧w=w':=by
 have HQ:Hid ((fun (e:Ending) w'=>e=.returned (.bool false)∧w=w') (.returned (.bool false)) w):=Hd ⟨rfl,rfl⟩
 generalize (fun (e:Ending) w'=>e=.returned (.bool false)∧w=w')=Q at *
 go_enter Tryz.func116,Tryz.ntmps116
 go_wp2_with fail
 exact HQ.out
def holeZ (o:Option Nat):Int:=match o with
 | some h=>(h:Int)
 | none=>-1
theorem zFl {hs:List Hl} {s:ByteArray} {h:Nat} (e:hs.findIdx? (fun x=>decide (s=x.1))=some h):holeM hs s=some (h:Int):=by unfold holeM;rw [e];rfl
theorem zFm {hs:List Hl} {s:ByteArray} (e:hs.findIdx? (fun x=>decide (s=x.1))=none):holeM hs s=none:=by unfold holeM;rw [e];rfl
@[irreducible] def holePost (o:Option Nat) (w:World) (e:Ending) (w':World):Prop:=e=.returned (.int .i64 (holeZ o))∧∃ n,w'=w.drewN n
theorem zDi (E:SkE) (ok:SkOK E) (w:World) (hi:SkFix E w) (p:Nat) (hp:p<E.f.length) :
  Calls Tryz.prog 115 #[.pointer (some ⟨E.g,0,none⟩),.int .i64 (p:Int)] w (holePost (zM E.f E.hs p) w):=by
 have HQ:Hid (∀ o n,zM E.f E.hs p=o→holePost (zM E.f E.hs p) w (.returned (.int .i64 (holeZ o))) (w.drewN n)):=Hd fun o n h=>by
  unfold holePost;rw [h];exact ⟨rfl,n,rfl⟩
 generalize holePost (zM E.f E.hs p) w=Q at *
 have hw:=zI ok.hf.well
 have hka:∀ i (h:i<E.f.length),zX E.f i=(E.f[i]).1:=fun i h=>by unfold zX;rw [List.getElem?_eq_getElem h]
 have hfl:=ok.fl
 obtain ⟨fa,fcap,hfv,hfc⟩:=hi.f.slice
 have hrow:=hi.f
 rw [hfv] at hrow
 obtain ⟨b,off,rfl,_,_,hbl,hcell⟩:=hrow.at (Below.refl _ _) (show 0<E.f.length by omega)
 obtain ⟨d0,_,d2⟩:=hcell p hp
 have c0:=hi.cells.1
 rw [hfv] at c0
 have c4:=hi.cells.2.2.2.2.1
 have c5:=hi.cells.2.2.2.2.2.1
 have hp0:(0:Int)≤(p:Int):=by omega
 have hpl:(p:Int)<E.f.length:=by omega
 have hpc:(p:Int)<fcap:=by omega
 have hwp:IntKind.i64.wrap ((p:Int)+1)=(p:Int)+1:=wI (by omega)
 have hlook:∀ s:ByteArray,s.size≤1048576→∀ k,(Instr.lookup 110 (.map (some E.bm)) (.string s) true).run Tryz.prog (w.drewN k)=.ok (.tuple #[.int .i64 ((holeM E.hs s).getD 0),.bool (holeM E.hs s).isSome]) (w.drewN k):=fun s hs k =>
  (hi.m.same (w':=w.drewN k) rfl).ok s (by unfold maxLen;omega)
 have HL:=Hd hlook
 have HP:=Hd ((ok.hf.prog p hp).symm)
 have HC:=Hd hcell
 have HI:=Hd hi
 have HKA:=Hd hka
 have HSZ:=Hd (fun i (h:i<E.f.length)=>(ok.fk.2 _ (List.getElem_mem h)).2)
 clear hcell hrow hi hka hlook
 by_cases h50:(E.f[p]).1=50
 ·obtain ⟨hp1,_⟩:=gI hw hp (ok.hf.stmt p hp h50)
  obtain ⟨g0,_,g2⟩:=HC.out (p+1) hp1
  have hp1i:(p:Int)+1<E.f.length:=by omega
  have hp1c:(p:Int)+1<fcap:=by omega
  have hp10:(0:Int)≤(p:Int)+1:=by omega
  have hp1n:((p:Int)+1).toNat=p+1:=by omega
  have hgt:(p:Int)<(p:Int)+1:=by omega
  have hgd:decide ((p:Int)<(p:Int)+1)=true:=decide_eq_true hgt
  by_cases h26:(E.f[p+1]).1=26
  ·have f1:(((E.f[p]).1:Int) == 50)=true:=by rw [beq_iff_eq];omega
   have f3:(((E.f[p+1]).1:Int) == 26)=true:=by rw [beq_iff_eq];omega
   have f2:(((E.f[p+1]).1:Int) != 26)=false:=by rw [bne_eq_false_iff_eq];omega
   have hho:∀ o,E.hs.findIdx? (fun x=>decide ((E.f[p+1]).2.2=x.1))=o→zM E.f E.hs p=(match o with
     | some h=>if xM (hkind E.hs h) then some h else none
     | none=>none):=fun o ho=>by
    rw [HP.out];unfold holeP
    rw [HKA.out p hp,HKA.out (p+1) hp1,if_pos ⟨h50,h26⟩,List.getElem?_eq_getElem hp1]
    simp only []
    rw [ho]
    cases o <;> rfl
   have HHO:=Hd hho
   have hsz:=HSZ.out (p+1) hp1
   have HLK:=Hd (HL.out (E.f[p+1]).2.2 hsz)
   clear h50 h26 hho hsz d2
   generalize (E.f[p]).1=kp at *
   generalize (E.f[p+1]).1=kq at *
   generalize (E.f[p+1]).2.2=xp at *
   cases hx:E.hs.findIdx? (fun x=>decide (xp=x.1)) with
   | none =>
    have hlk:=HLK.out
    rw [zFm hx] at hlk
    simp only [Option.getD_none,Option.isSome_none] at hlk
    have HX:=Hd (fun n=>HQ.out none n (by rw [HHO.out none hx]))
    clear hx HLK
    go_enter Tryz.func115,Tryz.ntmps115
    go_wp2_with fail
    go_quiet (fail)
    go_wp2_with fail
    exact HX.out _
   | some h =>
    obtain ⟨hh,hj⟩:=List.findIdx?_eq_some_iff_getElem.1 hx
    clear hj
    have hlk:=HLK.out
    rw [zFl hx] at hlk
    simp only [Option.getD_some,Option.isSome_some] at hlk
    obtain ⟨kb,koff,kcap,hkv,hkc,k1⟩:=HI.out.kind hh
    rw [hkv] at c5
    have hh0:(0:Int)≤(h:Int):=by omega
    have hhl:(h:Int)<E.hs.length:=by omega
    have HS:Hid (xM (hkind E.hs h)=(hkind E.hs h == 5 || hkind E.hs h == 7)):=Hd rfl
    have hO:=HHO.out (some h) hx
    simp only [] at hO
    have HO:=Hd hO
    clear hO
    have hhn:=ok.hn
    clear hx HLK hh hkv
    generalize hkind E.hs h=x at *
    by_cases h5:x=5
    ·have g1:((x:Int) == 5)=true:=by rw [beq_iff_eq];omega
     have HX:=Hd (fun n=>HQ.out (some h) n (by rw [HO.out,HS.out,h5];rfl))
     clear h5
     go_enter Tryz.func115,Tryz.ntmps115
     go_wp2_with fail
     go_quiet (fail)
     go_wp2_with fail
     exact HX.out _
    ·have g1:((x:Int) == 5)=false:=by rw [beq_eq_false_iff_ne];omega
     by_cases h7:x=7
     ·have g2:((x:Int) == 7)=true:=by rw [beq_iff_eq];omega
      have HX:=Hd (fun n=>HQ.out (some h) n (by rw [HO.out,HS.out,h7];rfl))
      clear h5 h7
      go_enter Tryz.func115,Tryz.ntmps115
      go_wp2_with fail
      go_quiet (fail)
      go_wp2_with fail
      exact HX.out _
     ·have g2:((x:Int) == 7)=false:=by rw [beq_eq_false_iff_ne];omega
      have HX:=Hd (fun n=>HQ.out none n (by rw [HO.out,HS.out];simp [h5,h7]))
      clear h5 h7
      go_enter Tryz.func115,Tryz.ntmps115
      go_wp2_with fail
      go_quiet (fail)
      go_wp2_with fail
      exact HX.out _
  ·have f1:(((E.f[p]).1:Int) == 50)=true:=by rw [beq_iff_eq];omega
   have f3:(((E.f[p+1]).1:Int) == 26)=false:=by rw [beq_eq_false_iff_ne];omega
   have f2:(((E.f[p]).1:Int) != 26)=true:=by rw [bne_iff_ne];omega
   have HX:=Hd (HQ.out none 0 (by rw [HP.out];unfold holeP;rw [HKA.out p hp,HKA.out (p+1) hp1,if_neg (fun h=>h26 h.2),if_neg (by omega)]))
   clear h50 h26 d2 g2
   generalize (E.f[p]).1=kp at *
   generalize (E.f[p+1]).1=kq at *
   go_enter Tryz.func115,Tryz.ntmps115
   go_wp2_with fail
   exact HX.out
 ·by_cases h26:(E.f[p]).1=26
  ·have f1:(((E.f[p]).1:Int) == 50)=false:=by rw [beq_eq_false_iff_ne];omega
   have f2:(((E.f[p]).1:Int) != 26)=false:=by rw [bne_eq_false_iff_eq];omega
   have hho:∀ o,E.hs.findIdx? (fun x=>decide ((E.f[p]).2.2=x.1))=o→zM E.f E.hs p=(match o with
     | some h=>if xM (hkind E.hs h) then none else some h
     | none=>none):=fun o ho=>by
    rw [HP.out];unfold holeP
    rw [HKA.out p hp,if_neg (fun h=>h50 h.1),if_pos h26,List.getElem?_eq_getElem hp]
    simp only []
    rw [ho]
    cases o <;> rfl
   have HHO:=Hd hho
   have hsz:=HSZ.out p hp
   have HLK:=Hd (HL.out (E.f[p]).2.2 hsz)
   clear h50 h26 hho hsz
   generalize (E.f[p]).1=kp at *
   generalize (E.f[p]).2.2=xp at *
   cases hx:E.hs.findIdx? (fun x=>decide (xp=x.1)) with
   | none =>
    have hlk:=HLK.out
    rw [zFm hx] at hlk
    simp only [Option.getD_none,Option.isSome_none] at hlk
    have HX:=Hd (fun n=>HQ.out none n (by rw [HHO.out none hx]))
    clear hx HLK
    go_enter Tryz.func115,Tryz.ntmps115
    go_wp2_with fail
    go_quiet (fail)
    go_wp2_with fail
    exact HX.out _
   | some h =>
    obtain ⟨hh,hj⟩:=List.findIdx?_eq_some_iff_getElem.1 hx
    clear hj
    have hlk:=HLK.out
    rw [zFl hx] at hlk
    simp only [Option.getD_some,Option.isSome_some] at hlk
    obtain ⟨kb,koff,kcap,hkv,hkc,k1⟩:=HI.out.kind hh
    rw [hkv] at c5
    have hh0:(0:Int)≤(h:Int):=by omega
    have hhl:(h:Int)<E.hs.length:=by omega
    have HS:Hid (xM (hkind E.hs h)=(hkind E.hs h == 5 || hkind E.hs h == 7)):=Hd rfl
    have hO:=HHO.out (some h) hx
    simp only [] at hO
    have HO:=Hd hO
    clear hO
    have hhn:=ok.hn
    clear hx HLK hh hkv
    generalize hkind E.hs h=x at *
    by_cases h5:x=5
    ·have g1:((x:Int) == 5)=true:=by rw [beq_iff_eq];omega
     have HX:=Hd (fun n=>HQ.out none n (by rw [HO.out,HS.out,h5];rfl))
     clear h5
     go_enter Tryz.func115,Tryz.ntmps115
     go_wp2_with fail
     go_quiet (fail)
     go_wp2_with fail
     exact HX.out _
    ·have g1:((x:Int) == 5)=false:=by rw [beq_eq_false_iff_ne];omega
     by_cases h7:x=7
     ·have g2:((x:Int) == 7)=true:=by rw [beq_iff_eq];omega
      have HX:=Hd (fun n=>HQ.out none n (by rw [HO.out,HS.out,h7];rfl))
      clear h5 h7
      go_enter Tryz.func115,Tryz.ntmps115
      go_wp2_with fail
      go_quiet (fail)
      go_wp2_with fail
      exact HX.out _
     ·have g2:((x:Int) == 7)=false:=by rw [beq_eq_false_iff_ne];omega
      have HX:=Hd (fun n=>HQ.out (some h) n (by rw [HO.out,HS.out];simp [h5,h7]))
      clear h5 h7
      go_enter Tryz.func115,Tryz.ntmps115
      go_wp2_with fail
      go_quiet (fail)
      go_wp2_with fail
      exact HX.out _
  ·have f1:(((E.f[p]).1:Int) == 50)=false:=by rw [beq_eq_false_iff_ne];omega
   have f2:(((E.f[p]).1:Int) != 26)=true:=by rw [bne_iff_ne];omega
   have HX:=Hd (HQ.out none 0 (by rw [HP.out];unfold holeP;rw [HKA.out p hp,if_neg (fun h=>h50 h.1),if_neg h26]))
   clear h50 h26
   generalize (E.f[p]).1=kp at *
   generalize (E.f[p]).2.2=xp at *
   go_enter Tryz.func115,Tryz.ntmps115
   go_wp2_with fail
   exact HX.out
end Go.Proofs.YtfalelkfhandfaaGreatDoor
namespace Go.Proofs.YtfalelkfhandfaaGreatDoor
set_option maxRecDepth 100000
set_option maxHeartbeats 32000000
set_option linter.all false
attribute [local irreducible] Calls
open Go.RowKit

theorem zVu (E:SkE) (ok:SkOK E) (w:World) (hi:SkFix E w) (n1 n2:ByteArray) (a1 b1 a2 b2:Nat) (h1:a1≤b1) (h1':b1≤E.l.length) (h2:a2≤b2) (h2':b2≤E.l.length) :
  Calls Tryz.prog 131 #[.pointer (some ⟨E.g,0,none⟩),.agg #[.string n1,.int .i64 (a1:Int),.int .i64 (b1:Int)],.agg #[.string n2,.int .i64 (a2:Int),.int .i64 (b2:Int)]] w
   fun e w'=>∃ x,e=.returned (.bool x)∧TellsEq x (piece E.l a1 b1) (piece E.l a2 b2)∧Below w.heap.size w w':=by
 have HQ:Hid (∀ x w',TellsEq x (piece E.l a1 b1) (piece E.l a2 b2)→Below w.heap.size w w'→(fun (e:Ending) w'=>∃ x,e=.returned (.bool x)∧TellsEq x (piece E.l a1 b1) (piece E.l a2 b2)∧Below w.heap.size w w') (.returned (.bool x)) w'):=Hd fun x w' h h2=>⟨x,rfl,h,h2⟩
 generalize (fun (e:Ending) w'=>∃ x,e=.returned (.bool x)∧TellsEq x (piece E.l a1 b1) (piece E.l a2 b2)∧Below w.heap.size w w')=Q at *
 have hll:=ok.ll
 have c1:=hi.cells.2.1
 have hgs:E.g<w.heap.size:=lt_of_block hi.s
 obtain ⟨p1,k1,s1,r1⟩:=fO w E.vl E.l hi.l a1 b1 h1 h1'
 obtain ⟨p2,k2,s2,r2⟩:=fO w E.vl E.l hi.l a2 b2 h2 h2'
 have hl1:(piece E.l a1 b1).length≤1000000000:=by unfold piece;rw [List.length_take,List.length_drop];omega
 have hl2:(piece E.l a2 b2).length≤1000000000:=by unfold piece;rw [List.length_take,List.length_drop];omega
 have CS:=Hd (fun W (hb:Below w.heap.size w W)=>zRf _ _ _ _ hl1 hl2 W (r1.below hb) (r2.below hb))
 generalize piece E.l a1 b1=P1 at *
 generalize piece E.l a2 b2=P2 at *
 have HB:Hid (Below w.heap.size w ((w.alloc (.cells #[.string n1,.int .i64 (a1:Int),.int .i64 (b1:Int)] 52)).alloc (.cells #[.string n2,.int .i64 (a2:Int),.int .i64 (b2:Int)] 52))):=Hd (((Below.refl _ _).alloc (Nat.le_refl _) _).alloc (by simp) _)
 have HBd:=Hd HB.out.drew
 clear hi r1 r2
 go_enter Tryz.func131,Tryz.ntmps131
 go_wp2_with fail
 have e1:((w.alloc (.cells #[.string n1,.int .i64 (a1:Int),.int .i64 (b1:Int)] 52)).alloc (.cells #[.string n2,.int .i64 (a2:Int),.int .i64 (b2:Int)] 52)).cell? ⟨E.g,1,none⟩=some E.vl:=by rw [HB.out.cell (p:=⟨E.g,1,none⟩) hgs];exact c1
 have x1:((w.alloc (.cells #[.string n1,.int .i64 (a1:Int),.int .i64 (b1:Int)] 52)).alloc (.cells #[.string n2,.int .i64 (a2:Int),.int .i64 (b2:Int)] 52)).cell? ⟨w.heap.size,1,none⟩=some (.int .i64 (a1:Int)):=by
  rw [World.cell?_alloc_past _ _ _ (by simp)];exact World.cell?_alloc_at _ _ _ _ rfl
 have x2:((w.alloc (.cells #[.string n1,.int .i64 (a1:Int),.int .i64 (b1:Int)] 52)).alloc (.cells #[.string n2,.int .i64 (a2:Int),.int .i64 (b2:Int)] 52)).cell? ⟨w.heap.size,2,none⟩=some (.int .i64 (b1:Int)):=by
  rw [World.cell?_alloc_past _ _ _ (by simp)];exact World.cell?_alloc_at _ _ _ _ rfl
 have x3:((w.alloc (.cells #[.string n1,.int .i64 (a1:Int),.int .i64 (b1:Int)] 52)).alloc (.cells #[.string n2,.int .i64 (a2:Int),.int .i64 (b2:Int)] 52)).cell? ⟨w.heap.size+1,1,none⟩=some (.int .i64 (a2:Int)):=World.cell?_alloc_at _ _ _ _ (by simp)
 have x4:((w.alloc (.cells #[.string n1,.int .i64 (a1:Int),.int .i64 (b1:Int)] 52)).alloc (.cells #[.string n2,.int .i64 (a2:Int),.int .i64 (b2:Int)] 52)).cell? ⟨w.heap.size+1,2,none⟩=some (.int .i64 (b2:Int)):=World.cell?_alloc_at _ _ _ _ (by simp)
 have hz0:w.heap.size+1<((w.alloc (.cells #[.string n1,.int .i64 (a1:Int),.int .i64 (b1:Int)] 52)).alloc (.cells #[.string n2,.int .i64 (a2:Int),.int .i64 (b2:Int)] 52)).heap.size:=by simp
 generalize (w.alloc (.cells #[.string n1,.int .i64 (a1:Int),.int .i64 (b1:Int)] 52)).alloc (.cells #[.string n2,.int .i64 (a2:Int),.int .i64 (b2:Int)] 52)=W0 at *
 have HZ:=Hd hz0
 have HG:=Hd hgs
 clear c1 hz0 hgs HB
 generalize hss:w.heap.size=B at *
 have HSS:=Hd hss
 clear hss
 have HK:Hid (∀ W,Below W0.drew.heap.size W0.drew W→W.cell? ⟨E.g,1,none⟩=some E.vl∧W.cell? ⟨B,1,none⟩=some (.int .i64 (a1:Int))∧W.cell? ⟨B,2,none⟩=some (.int .i64 (b1:Int))∧W.cell? ⟨B+1,1,none⟩=some (.int .i64 (a2:Int))∧W.cell? ⟨B+1,2,none⟩=some (.int .i64 (b2:Int))∧Hid (Below B w W)):=Hd fun W hb=>by
  have hz:B+1<W0.drew.heap.size:=HZ.out
  have hg:E.g<W0.drew.heap.size:=by have:=HG.out;omega
  refine ⟨?_,?_,?_,?_,?_,Hd (HBd.out.trans (hb.mono (by omega)))⟩
  ·rw [hb.cell (p:=⟨E.g,1,none⟩) hg];exact e1
  ·rw [hb.cell (p:=⟨B,1,none⟩) (show B<_ by omega)];exact x1
  ·rw [hb.cell (p:=⟨B,2,none⟩) (show B<_ by omega)];exact x2
  ·rw [hb.cell (p:=⟨B+1,1,none⟩) hz];exact x3
  ·rw [hb.cell (p:=⟨B+1,2,none⟩) hz];exact x4
 go_region_held3 (fun W=>W.cell? ⟨E.g,1,none⟩=some E.vl∧W.cell? ⟨B,1,none⟩=some (.int .i64 (a1:Int))∧W.cell? ⟨B,2,none⟩=some (.int .i64 (b1:Int))∧W.cell? ⟨B+1,1,none⟩=some (.int .i64 (a2:Int))∧W.cell? ⟨B+1,2,none⟩=some (.int .i64 (b2:Int))∧Hid (Below B w W)) (first | exact ⟨e1,x1,x2,x3,x4,HBd⟩ | exact HK.out _ hb4) ((go_at_call 152;(with_reducible refine (CS.out _ HBd.out).mono ?_);(rintro e w4 ⟨x,rfl,hx,hb4⟩);(try dsimp only)))
 all_goals
  have HX:=Hd (HQ.out x w4 hx (HSS.out ▸ (HK.out _ hb4).2.2.2.2.2.out))
  clear hb4 hx
  go_wp2_with fail
  exact HX.out
end Go.Proofs.YtfalelkfhandfaaGreatDoor
namespace Go.Proofs.YtfalelkfhandfaaGreatDoor
set_option linter.all false
attribute [local irreducible] Calls
open Go.RowKit

theorem zCb {hs:List Hl} {σ:MSt} (h:σ.length=hs.length):(bindsOf hs σ).length=hs.length:=by unfold bindsOf;simp [h]
theorem zQv {hs:List Hl} {σ:MSt} {k:Nat} (hk:k<hs.length) (hn:σ.length=hs.length) {o:Option (Nat×Nat)} (ho:σ[k]?=some o):∃ hh:k<(bindsOf hs σ).length,(bindsOf hs σ)[k]=bindOf hs[k] o:=by
 refine ⟨by rw [zCb hn];exact hk,?_⟩
 unfold bindsOf
 rw [List.getElem_zipWith]
 rw [List.getElem?_eq_getElem (by omega)] at ho
 rw [Option.some.inj ho]
theorem SkIn.bindAt {E:SkE} {σ:MSt} {w:World} (h:SkIn E σ w) {k:Nat} (hk:k<E.hs.length) {o:Option (Nat×Nat)} (ho:σ[k]?=some o) :
  ∃ gb cb,E.vb=.slice (some ⟨gb,0,none⟩) E.hs.length cb∧E.hs.length≤cb∧E.B≤gb∧gb<w.heap.size∧w.cell? ⟨gb,k*3,none⟩=some (.string (E.hs[k]).1)∧w.cell? ⟨gb,k*3+1,none⟩=some (.int .i64 (bindOf E.hs[k] o).2.1)∧w.cell? ⟨gb,k*3+2,none⟩=some (.int .i64 (bindOf E.hs[k] o).2.2)∧∀ j,w.frozen? ⟨gb,j,none⟩=false:=by
 have hb:=h.b
 rcases hb.2 with ⟨_,h0⟩ | ⟨gb,cb,cur,hv,hg,hh,hnc,_,_,_⟩
 ·omega
 ·rw [hv] at hb
  obtain ⟨hh1,he⟩:=zQv hk h.n ho
  have hc:∀ j,j<3→w.cell? ⟨gb,k*3+j,none⟩=(bindV (bindOf E.hs[k] o))[j]?:=fun j hj=>by
   rw [hb.cellAt _ (by omega)]
   unfold bindsV
   rw [vY (g:=bindV) (sz:=3) (fun _=>rfl) _ k j hh1 hj,he]
  have hn:(bindOf E.hs[k] o).1=(E.hs[k]).1:=by cases o <;> rfl
  refine ⟨gb,cb,hv,hnc,hg,zD hh,?_,hc 1 (by omega),hc 2 (by omega),fun j=>by simp [World.frozen?,hh]⟩
  have:=hc 0 (by omega)
  rw [Nat.add_zero] at this
  rw [this]
  unfold bindV
  rw [hn];rfl
theorem SkIn.boundAt {E:SkE} {σ:MSt} {w:World} (h:SkIn E σ w) {k:Nat} (hk:k<E.hs.length) {o:Option (Nat×Nat)} (ho:σ[k]?=some o) :
  ∃ gz cz,E.vz=.slice (some ⟨gz,0,none⟩) E.hs.length cz∧E.hs.length≤cz∧E.B≤gz∧gz<w.heap.size∧w.cell? ⟨gz,k,none⟩=some (.bool o.isSome)∧∀ j,w.frozen? ⟨gz,j,none⟩=false:=by
 have hb:=h.z
 rcases hb.2 with ⟨_,h0⟩ | ⟨gz,cz,cur,hv,hg,hh,hnc,_,_,_⟩
 ·omega
 ·rw [hv] at hb
  refine ⟨gz,cz,hv,hnc,hg,zD hh,?_,fun j=>by simp [World.frozen?,hh]⟩
  rw [hb.cellAt _ (by omega)]
  unfold boundV
  rw [List.getElem?_map,ho];rfl
theorem zHj {α:Type} {g:α→List Value} (hg:∀ x,(g x).length=3):∀ (l:List α) (k:Nat) (x:α) (a b c:Value),k<l.length→g x=[a,b,c]→(((l.flatMap g).set (k*3) a).set (k*3+1) b).set (k*3+2) c=(l.set k x).flatMap g
 | y::l,0,x,a,b,c,_,hx=>by
  have hy:=hg y
  rw [List.flatMap_cons,List.set_cons_zero,List.flatMap_cons,hx]
  match hgy:g y,hy with
  | [p,q,r],_=>rfl
 | y::l,k+1,x,a,b,c,hk,hx=>by
  have hy:=hg y
  rw [List.flatMap_cons,List.set_cons_succ,List.flatMap_cons]
  match hgy:g y,hy with
  | [p,q,r],_ =>
   rw [← zHj hg l k x a b c (by simpa using hk) hx]
   rw [show (k+1)*3=k*3+3 by omega,show k*3+3+1=k*3+1+3 by omega,show k*3+3+2=k*3+2+3 by omega]
   rfl
theorem zLg (hs:List Hl):∀ (σ:MSt) (k:Nat) (o:Option (Nat×Nat)) (hk:k<hs.length),σ.length=hs.length→bindsOf hs (σ.set k o)=(bindsOf hs σ).set k (bindOf hs[k] o):=by
 intro σ k o hk hn
 unfold bindsOf
 apply List.ext_getElem
 ·simp
 ·intro j h1 h2
  rw [List.getElem_zipWith,List.getElem_set,List.getElem_set]
  by_cases e:k=j
  ·subst e;rw [if_pos rfl,if_pos rfl]
  ·rw [if_neg e,if_neg e,List.getElem_zipWith]
theorem SkIn.turn {E:SkE} {σ:MSt} {w w':World} (h:SkIn E σ w) {k:Nat} {o:Option (Nat×Nat)} (hr:∀ q,o=some q→q.1≤q.2∧q.2≤E.l.length) (hk:KeptX E w w') (hb:w'.ownsRow E.B 52 3 E.vb E.hs.length (bindsV (bindsOf E.hs (σ.set k o)))) (hz:w'.ownsRow E.B 4 1 E.vz E.hs.length (boundV (σ.set k o))):SkIn E (σ.set k o) w' :=
 ⟨h.st.keep hk,hb,hz,by rw [List.length_set];exact h.n,fun j q hq=>by
  by_cases e:k=j
  ·subst e
   by_cases hl:k<σ.length
   ·rw [List.getElem?_set_self hl] at hq
    exact hr q (Option.some.inj hq)
   ·rw [List.getElem?_eq_none (by simp;omega)] at hq;cases hq
  ·rw [List.getElem?_set_ne e] at hq;exact h.r j q hq⟩
theorem zNp (σ:MSt) (k:Nat) (o:Option (Nat×Nat)):boundV (σ.set k o)=(boundV σ).set k (.bool o.isSome):=by unfold boundV;rw [List.map_set]
end Go.Proofs.YtfalelkfhandfaaGreatDoor
namespace Go.Proofs.YtfalelkfhandfaaGreatDoor
set_option linter.all false

theorem zQm {r:RuleM} {l:List Prt} {bs:List Bnd} (h:bs.length≠r.holes.length):rightB r l bs=false:=by
 cases e:rightB r l bs with
 | false=>rfl
 | true=>exact absurd (vD.1 e).1 h
theorem zTq {r:RuleM} {l:List Prt} {bs:List Bnd} {n:Nat} (hh:n<r.holes.length) (hb:n<bs.length) (h:okB l r.holes[n] bs[n]=false):rightB r l bs=false:=by
 cases e:rightB r l bs with
 | false=>rfl
 | true =>
  have:=(vD.1 e).2 n hh hb
  rw [h] at this
  cases this
def RightTo (r:RuleM) (l:List Prt) (bs:List Bnd) (n:Nat):Prop:=∀ i (hh:i<r.holes.length) (hb:i<bs.length),i<n→okB l r.holes[i] bs[i]=true
theorem zQn {r:RuleM} {l:List Prt} {bs:List Bnd} (hl:bs.length=r.holes.length) (h:RightTo r l bs bs.length):rightB r l bs=true:=vD.2 ⟨hl,fun i hh hb=>h i hh hb hb⟩
theorem RightTo.next {r:RuleM} {l:List Prt} {bs:List Bnd} {n:Nat} (h:RightTo r l bs n) (hk:∀ (hh:n<r.holes.length) (hb:n<bs.length),okB l r.holes[n] bs[n]=true):RightTo r l bs (n+1):=fun i hh hb hi=>by
 by_cases e:i=n
 ·subst e;exact hk hh hb
 ·exact h i hh hb (by omega)
section
variable {l:List Prt} {h:Hl} {b:Bnd}
theorem zTr (e:b.1≠h.1):okB l h b=false:=by unfold okB;rw [decide_eq_false e];rfl
theorem zIv (e:¬ (0≤b.2.1∧b.2.1≤b.2.2∧b.2.2≤l.length)):okB l h b=false:=by unfold okB;rw [decide_eq_false e];simp
theorem zQo (e:xE (piece l b.2.1.toNat b.2.2.toNat)<0):okB l h b=false:=by unfold okB;rw [decide_eq_false (show ¬ 0≤xE (piece l b.2.1.toNat b.2.2.toNat) by omega)];simp
theorem zVr (hs:isSev h.2=false) (e:xE (piece l b.2.1.toNat b.2.2.toNat)≠1):okB l h b=false:=by unfold okB;rw [hs,decide_eq_false e];simp
theorem zVs (hs:isSev h.2=false) (e:mayB h.2 (zX l b.2.1.toNat)=false):okB l h b=false:=by unfold okB;rw [hs,e];simp
theorem zOm (e1:b.1=h.1) (e2:0≤b.2.1∧b.2.1≤b.2.2∧b.2.2≤l.length) (e3:0≤xE (piece l b.2.1.toNat b.2.2.toNat)) (e4:isSev h.2=false→xE (piece l b.2.1.toNat b.2.2.toNat)=1∧mayB h.2 (zX l b.2.1.toNat)=true):okB l h b=true:=by
 unfold okB
 rw [decide_eq_true e1,decide_eq_true e2,decide_eq_true e3]
 cases hs:isSev h.2 with
 | true=>rfl
 | false =>
  obtain ⟨e5,e6⟩:=e4 hs
  rw [decide_eq_true e5,e6];rfl
end
end Go.Proofs.YtfalelkfhandfaaGreatDoor
