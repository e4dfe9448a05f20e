/- Layer 16 in plain Lean: what rule.Check comes by. -/
import Derived.Test.YtbjkdmbcpkopjaaGreatDoorCheckBMt
import Derived.Test.YtbjkdmbcpkopjaaGreatDoorCoreMt
import Derived.Maps.OwnSet
import Derived.Test.YtbjkdmbcpkopjaaGreatDoorRuleVMt
import Derived.Test.YtbjkdmbcpkopjaaGreatDoorAppEqMt
import Derived.Deep.QuietTactic
import Derived.BigQuiet
import Derived.Deep.Cut
namespace Go.Proofs.YtbjkdmbcpkopjaaGreatDoor
set_option linter.all false

def dupB (r:RuleM) (k:Nat) (s:ByteArray):Bool:=(r.holes.take k).any fun g=>decide (g.1=s)
def seenM (hs:List Hl) (x:ByteArray):Option Int:=if hs.any (fun g=>decide (g.1=x))=true then some 1 else none
theorem zJh (hs:List Hl) (h:Hl):(fun x=>if x=h.1 then some 1 else seenM hs x)=seenM (hs++[h]):=by
 funext x
 unfold seenM;rw [List.any_append];by_cases e:x=h.1
 ·subst e;simp
 ·rw [iN e];have:(List.any [h] fun g=>decide (g.1=x))=false:=by simp;exact fun e2=>e e2.symm
  rw [this,Bool.or_false]
theorem jO {α:Type} {l:List α} {k:Nat} (hk:k<l.length):l.take (k+1)=l.take k++[l[k]]:=by
 rw [List.take_add_one,gE hk];rfl
theorem zMs {r:RuleM} {k:Nat} (hk:k<r.holes.length):holeB r k=(!dupB r k (r.holes[k]).1&&(name (r.holes[k]).1&&(decide (1≤(r.holes[k]).2∧(r.holes[k]).2≤7)&&(decide (1≤yK r.fnd r.holes[k])&&decide (0≤yK r.by' r.holes[k]))))):=by
 unfold holeB dupB;rw [gE hk]
theorem gS {r:RuleM} (h:ruleTop r=false):ruleZ r=10:=by unfold ruleZ;rw [iP h]
theorem zCc {r:RuleM} (h:ruleTop r=true) (c:16<r.holes.length∨2<sevN r.holes):ruleZ r=14:=by unfold ruleZ;rw [iN (by simp [h]),iP c]
theorem zMt {r:RuleM} (h:ruleTop r=true) (c1:r.holes.length≤16) (c2:sevN r.holes≤2) {k:Nat} (hk:k<r.holes.length) (hb:holeB r k=false):ruleZ r=11:=by
 unfold ruleZ;rw [iN (by simp [h]),iN (by omega),iN (fun hh=>by have:=hh k hk;rw [hb] at this;cases this)]
theorem zSx {r:RuleM} (h:ruleTop r=true) (c1:r.holes.length≤16) (c2:sevN r.holes≤2) (hh:∀ i,i<r.holes.length→holeB r i=true):ruleZ r=0:=by
 unfold ruleZ;rw [iN (by simp [h]),iN (by omega),iP hh]
theorem zJi {hs:List Hl} {k:Nat} (hk:k<hs.length):sevN (hs.take (k+1))=sevN (hs.take k)+(if isSev (hs[k]).2=true then 1 else 0):=by
 unfold sevN;rw [jO hk,List.filter_append,lA];by_cases h:isSev (hs[k]).2=true
 ·simp [h]
 ·simp [h]
theorem zMu (hs:List Hl):sevN (hs.take hs.length)=sevN hs:=by rw [List.take_length]
theorem zSy (hs:List Hl):sevN hs≤hs.length:=List.length_filter_le _ _
open Go.RowKit
open Go.Maps
open Go.WideShapes
open Go.WideMaps
theorem Tkey:Keyed Tryz.prog 9:=string_keyed Tryz.underlying9
theorem zJk (w:World):(zeroValue 3).run Tryz.prog w=.ok (.int .i64 0) w:=by kernel_rfl
def keyS (s:ByteArray):Lit:=.string s.data.toList
theorem zNe {s x:ByteArray} (h:keyS s=keyS x):s=x:=by
 unfold keyS at h;simp only [Lit.string.injEq] at h;exact ByteArray.ext (Array.ext' h)
theorem zKs {s:ByteArray} (hs:s.size≤maxLen):keyOf Tryz.prog 9 (.string s)=some (keyS s):=keyOf_string_mk Tryz.underlying9 hs
def MapIs (w:World) (b n:Nat) (M:ByteArray→Option Int):Prop :=
 ∃ D:DataW Unit,w.ownsMap Tryz.prog 9 (plainElem Tryz.prog 3) b n D∧∀ s:ByteArray,s.size≤maxLen→Maps.has D (keyS s)=(M s).isSome∧D.atKey (keyS s) (.lit (.int .i64 0))=.lit (.int .i64 ((M s).getD 0))
theorem MapIs.made (w:World):MapIs (w.alloc (.map #[] 0)) w.heap.size 0 (fun _=>none):=⟨_,World.ownsMap_made _ _ _ _,fun s _=>⟨rfl,rfl⟩⟩
theorem MapIs.get {w:World} {b n:Nat} {M:ByteArray→Option Int} (h:MapIs w b n M) (s:ByteArray) (hs:s.size≤maxLen):(Instr.lookup 101 (.map (some b)) (.string s) false).run Tryz.prog w=.ok (.int .i64 ((M s).getD 0)) w:=by
 obtain ⟨D,hown,hD⟩:=h;obtain ⟨c,hrun,hat,_⟩:=hown.lookup_int Tkey Tryz.underlying101 Tryz.underlying3 (zJk _) (zKs hs);rw [(hD s hs).2] at hat;simp only [DataW.lit.injEq,Lit.int.injEq,true_and] at hat;rw [hrun,hat]
theorem MapIs.ok {w:World} {b n:Nat} {M:ByteArray→Option Int} (h:MapIs w b n M) (s:ByteArray) (hs:s.size≤maxLen):(Instr.lookup 101 (.map (some b)) (.string s) true).run Tryz.prog w=.ok (.tuple #[.int .i64 ((M s).getD 0),.bool (M s).isSome]) w:=by
 obtain ⟨D,hown,hD⟩:=h;obtain ⟨v,ps,hrun,hv⟩:=hown.look_ok Tkey Tryz.underlying101 (zJk _) (plainElem_int Tryz.underlying3 (by decide)) (zKs hs);obtain ⟨c,rfl,hc,_⟩:=plainElem_int_inv Tryz.underlying3 hv;have hat:=congrArg Prod.fst hc;rw [(hD s hs).2] at hat;simp only [DataW.lit.injEq,Lit.int.injEq,true_and] at hat;rw [hrun,(hD s hs).1,hat]
theorem MapIs.put {w:World} {b n:Nat} {M:ByteArray→Option Int} (h:MapIs w b n M) (hn:n<maxLen) (s:ByteArray) (hs:s.size≤maxLen) (c:Int) (hc:(Lit.int .i64 c).wf=true) :
  ∃ w',(Instr.mapUpdate 101 (.map (some b)) (.string s) (.int .i64 c)).run Tryz.prog w=.ok () w'∧MapIs w' b (n+1) (fun x=>if x=s then some c else M x)∧w.grownBy w' (some b):=by
 obtain ⟨D,hown,hD⟩:=h;obtain ⟨w',hrun,hown',hg⟩:=hown.update Tkey Tryz.underlying101 hn (zKs hs) (plainElem_int Tryz.underlying3 hc);refine ⟨w',hrun,⟨_,hown',fun x hx=>?_⟩,hg⟩;by_cases e:x=s
 ·subst e;show Maps.has _ _=(if x=x then some c else M x).isSome∧DataW.atKey _ _ _=.lit (.int .i64 ((if x=x then some c else M x).getD 0));rw [iP rfl];exact ⟨has_put_same hown.isMap (show Go.WideAt.IsKeyLit (keyS x) by unfold keyS;trivial) _,atKey_put_same hown.isMap (show Go.WideAt.IsKeyLit (keyS x) by unfold keyS;trivial) _ _⟩
 ·show Maps.has _ _=(if x=s then some c else M x).isSome∧DataW.atKey _ _ _=.lit (.int .i64 ((if x=s then some c else M x).getD 0));rw [iN e,has_put_other (fun h=>e (zNe h)),atKey_put_other (fun h=>e (zNe h))];exact hD x hx
theorem MapIs.same {w w':World} {b n:Nat} {M:ByteArray→Option Int} (h:MapIs w b n M) (hb:w'.heap[b]?=w.heap[b]?):MapIs w' b n M:=by
 obtain ⟨D,⟨es,clock,h1,h2⟩,hD⟩:=h;exact ⟨D,⟨es,clock,by rw [hb];exact h1,h2⟩,hD⟩
theorem MapIs.lt {w:World} {b n:Nat} {M:ByteArray→Option Int} (h:MapIs w b n M):b<w.heap.size:=by
 obtain ⟨D,hown,_⟩:=h;exact hown.lt
theorem MapIs.below {w w':World} {b n B:Nat} {M:ByteArray→Option Int} (h:MapIs w b n M) (hb:Below B w w') (hB:b<B):MapIs w' b n M:=h.same (hb.block b hB)
end Go.Proofs.YtbjkdmbcpkopjaaGreatDoor
namespace Go.Proofs.YtbjkdmbcpkopjaaGreatDoor
set_option linter.all false

abbrev Mch:=Nat×Nat×List Bnd
def oneM (rules:List RuleM) (l:List Prt) (i n:Nat):List Mch:=match rules[n]? with
 | some r=>(match atZ r l i with
  | some τ=>[(n,i,bindsOf r.holes τ)]
  | none=>[])
 | none=>[]
def atM (rules:List RuleM) (l:List Prt) (i:Nat):List Mch:=(List.range rules.length).flatMap (oneM rules l i)
def allM (rules:List RuleM) (l:List Prt):List Mch:=(List.range l.length).flatMap (atM rules l)
def vE:List RuleM→Int
 | []=>0
 | r::t=>if ruleZ r=0 then vE t else ruleZ r
def yR (rules:List RuleM) (l:List Prt):Int:=if zV l=false then 8 else if 32<rules.length then 14 else vE rules
theorem zBk:∀ {rules:List RuleM},vE rules=0↔∀ r∈rules,ruleZ r=0
 | []=>by simp [vE]
 | r::t=>by
  rw [vE];by_cases h:ruleZ r=0
  ·rw [iP h,zBk];simp [h]
  ·rw [iN h];simp [h]
theorem zCd {rules:List RuleM} {l:List Prt}:yR rules l=0↔zV l=true∧rules.length≤32∧∀ r∈rules,ruleZ r=0:=by
 unfold yR;cases hw:zV l with
 | false=>simp
 | true =>
  rw [iN (by simp)];by_cases h:32<rules.length
  ·rw [iP h];constructor
   ·intro h;omega
   ·intro h;omega
  ·rw [iN h,zBk];constructor
   ·intro g;exact ⟨rfl,by omega,g⟩
   ·intro g;exact g.2.2
theorem zEc (d:Nat):∀ (hs:List Hl) (σ:MSt),(∀ o∈σ,o≠none)→bindsOf hs (shift d σ)=(bindsOf hs σ).map fun b=>(b.1,b.2.1+(d:Int),b.2.2+(d:Int))
 | [],_,_=>by unfold bindsOf;simp
 | h::hs,[],_=>by unfold bindsOf shift;simp
 | h::hs,o::σ,hn=>by
  have ih:=zEc d hs σ (fun o ho=>hn o (by simp [ho]));unfold bindsOf at ih ⊢;unfold shift at ih ⊢;rw [List.map_cons,List.zipWith_cons_cons,List.zipWith_cons_cons,List.map_cons,ih]
  congr 1
  cases o with
  | none=>exact absurd rfl (hn none (by simp))
  | some q=>simp [bindOf]
theorem yAu {r:RuleM} {l:List Prt} {i:Int} {τ:MSt} (h:atZ r l i=some τ):∀ o∈τ,o≠none:=by
 obtain ⟨_,_,_,_,_,h6,h7⟩:=fU h;intro o ho e;obtain ⟨k,hk,rfl⟩:=List.mem_iff_getElem.1 ho;obtain ⟨q,hq,_⟩:=h7 k (by omega);rw [gE hk,e] at hq;cases hq
open Go.RowKit
structure SkE where
 f:List Prt
 l:List Prt
 hs:List Hl
 g:Nat
 vf:Value
 vl:Value
 vfe:Value
 ve:Value
 vk:Value
 bm:Nat
 nm:Nat
 vb:Value
 vz:Value
 B:Nat
structure KeptX (E:SkE) (w w':World):Prop where
 os:w'.os=w.os
 tape:w'.tape=w.tape
 output:w'.output=w.output
 size:w.heap.size≤w'.heap.size
 block:∀ k,k<w.heap.size→some k≠E.vb.ownBlock→some k≠E.vz.ownBlock→w'.heap[k]?=w.heap[k]?
theorem KeptX.refl (E:SkE) (w:World):KeptX E w w:=⟨rfl,rfl,rfl,nR _,fun _ _ _ _=>rfl⟩
theorem KeptX.trans {E:SkE} {a b c:World} (h:KeptX E a b) (k:KeptX E b c):KeptX E a c :=
 ⟨k.os.trans h.os,k.tape.trans h.tape,k.output.trans h.output,Nat.le_trans h.size k.size,fun i hi h1 h2=>(k.block i (Nat.lt_of_lt_of_le hi h.size) h1 h2).trans (h.block i hi h1 h2)⟩
theorem KeptX.of_below {E:SkE} {w w':World} (h:Below w.heap.size w w'):KeptX E w w':=⟨h.os,h.tape,h.output,h.size,fun k hk _ _=>h.block k hk⟩
theorem KeptX.drewN (E:SkE) (w:World) (n:Nat):KeptX E w (w.drewN n):=KeptX.of_below (drewB (bR _ _) n)
theorem KeptX.drew (E:SkE) (w:World):KeptX E w w.drew:=KeptX.of_below (bR _ _).drew
theorem KeptX.alloc (E:SkE) (w:World) (o:Obj):KeptX E w (w.alloc o):=KeptX.of_below ((bR _ _).alloc (nR _) _)
theorem KeptX.cell {E:SkE} {w w':World} (h:KeptX E w w') {k o:Nat} (hk:k<w.heap.size) (h1:some k≠E.vb.ownBlock) (h2:some k≠E.vz.ownBlock):w'.cell? ⟨k,o,none⟩=w.cell? ⟨k,o,none⟩:=by
 simp only [World.cell?,h.block k hk h1 h2]
def holeM (hs:List Hl) (s:ByteArray):Option Int:=(hs.findIdx? fun h=>decide (s=h.1)).map fun (n:Nat)=>(n:Int)
def kindsI (hs:List Hl):List Int:=hs.map fun h=>(h.2:Int)
structure SkFix (E:SkE) (w:World):Prop where
 s:w.heap[E.g]?=some (.cells #[E.vf,E.vl,E.vfe,E.ve,.map (some E.bm),E.vk,E.vb,E.vz] 108 (0,0))
 f:zF w E.vf E.f
 l:zF w E.vl E.l
 fe:zI w E.vfe .i64 (endsL E.f)
 e:zI w E.ve .i64 (endsL E.l)
 m:MapIs w E.bm E.nm (holeM E.hs)
 k:zI w E.vk .u8 (kindsI E.hs)
def SkStat (E:SkE) (w:World):Prop:=∀ w',KeptX E w w'→SkFix E w'
theorem SkStat.keep {E:SkE} {w w':World} (h:SkStat E w) (k:KeptX E w w'):SkStat E w':=fun x hx=>h x (k.trans hx)
theorem SkStat.now {E:SkE} {w:World} (h:SkStat E w):SkFix E w:=h w (KeptX.refl _ _)
def boundV (σ:MSt):List Value:=σ.map fun o=>.bool o.isSome
structure SkIn (E:SkE) (σ:MSt) (w:World):Prop where
 st:SkStat E w
 b:w.ownsRow E.B 46 3 E.vb E.hs.length (bindsV (bindsOf E.hs σ))
 z:w.ownsRow E.B 4 1 E.vz E.hs.length (boundV σ)
 n:σ.length=E.hs.length
 r:∀ (h:Nat) (q:Nat×Nat),σ[h]?=some (some q)→q.1≤q.2∧q.2≤E.l.length
structure SkOK (E:SkE):Prop where
 hf:xP E.f E.hs
 hl:zV E.l=true
 fl:E.f.length≤1048576
 ll:E.l.length≤1048576
 hn:E.hs.length≤1048576
 hk:∀ x∈E.hs,x.2<256∧x.1.size≤1048576
 fk:SmallL E.f
 lk:SmallL E.l
 ne:E.vb.ownBlock=none∨E.vb.ownBlock≠E.vz.ownBlock
 nb:some E.g≠E.vb.ownBlock∧some E.g≠E.vz.ownBlock
@[irreducible] def seekPost (E:SkE) (o:Option MSt) (σ:MSt) (w:World) (e:Ending) (w':World):Prop :=
 KeptX E w w'∧match o with
  | some τ=>e=.returned (.bool true)∧SkIn E τ w'
  | none=>e=.returned (.bool false)∧SkIn E σ w'
theorem seekPost.yes {E:SkE} {o:Option MSt} {σ τ:MSt} {w w':World} (ho:o=some τ) (h:KeptX E w w') (hi:SkIn E τ w'):seekPost E o σ w (.returned (.bool true)) w':=by
 unfold seekPost;rw [ho];exact ⟨h,rfl,hi⟩
theorem seekPost.no {E:SkE} {o:Option MSt} {σ:MSt} {w w':World} (ho:o=none) (h:KeptX E w w') (hi:SkIn E σ w'):seekPost E o σ w (.returned (.bool false)) w':=by
 unfold seekPost;rw [ho];exact ⟨h,rfl,hi⟩
theorem seekPost.out {E:SkE} {o:Option MSt} {σ:MSt} {w w':World} {e:Ending} (h:seekPost E o σ w e w'):KeptX E w w'∧((∃ τ,o=some τ∧e=.returned (.bool true)∧SkIn E τ w')∨(o=none∧e=.returned (.bool false)∧SkIn E σ w')):=by
 unfold seekPost at h;cases o with
 | some τ=>exact ⟨h.1,Or.inl ⟨τ,rfl,h.2⟩⟩
 | none=>exact ⟨h.1,Or.inr ⟨rfl,h.2⟩⟩
theorem seekPost.from {E:SkE} {o:Option MSt} {σ:MSt} {w0 w w':World} {e:Ending} (h:seekPost E o σ w e w') (k:KeptX E w0 w):seekPost E o σ w0 e w':=by
 unfold seekPost at h ⊢;exact ⟨k.trans h.1,h.2⟩
def ThenOK (E:SkE) (K:MSt→Option MSt) (tv:Value) (w0:World):Prop :=
 ∃ k cap,tv=.func (.func k) #[] cap∧(∀ args w,(callFunc k args).run Tryz.prog w=.ok (.enter k args) w)∧∀ w σ,KeptX E w0 w→SkIn E σ w→Calls Tryz.prog k cap w (seekPost E (K σ) σ w)
theorem ThenOK.keep {E:SkE} {K:MSt→Option MSt} {tv:Value} {w w':World} (h:ThenOK E K tv w) (k:KeptX E w w'):ThenOK E K tv w':=by
 obtain ⟨n,cap,e,hr,hc⟩:=h;exact ⟨n,cap,e,hr,fun x σ hx=>hc x σ (k.trans hx)⟩
theorem SkIn.below {E:SkE} {σ:MSt} {w w':World} (h:SkIn E σ w) (hb:Below w.heap.size w w'):SkIn E σ w' :=
 ⟨h.st.keep (KeptX.of_below hb),zY h.b hb,zY h.z hb,h.n,h.r⟩
theorem SkIn.drewN {E:SkE} {σ:MSt} {w:World} (h:SkIn E σ w) (n:Nat):SkIn E σ (w.drewN n):=h.below (drewB (bR _ _) n)
theorem SkFix.cells {E:SkE} {w:World} (h:SkFix E w):w.cell? ⟨E.g,0,none⟩=some E.vf∧w.cell? ⟨E.g,1,none⟩=some E.vl∧w.cell? ⟨E.g,2,none⟩=some E.vfe∧w.cell? ⟨E.g,3,none⟩=some E.ve∧w.cell? ⟨E.g,4,none⟩=some (.map (some E.bm))∧w.cell? ⟨E.g,5,none⟩=some E.vk∧w.cell? ⟨E.g,6,none⟩=some E.vb∧w.cell? ⟨E.g,7,none⟩=some E.vz:=by
 simp only [World.cell?,h.s];exact ⟨rfl,rfl,rfl,rfl,rfl,rfl,rfl,rfl⟩
end Go.Proofs.YtbjkdmbcpkopjaaGreatDoor
namespace Go.Proofs.YtbjkdmbcpkopjaaGreatDoor
set_option linter.all false

theorem zPx (hs:List Hl) (h:Hl) (hd:∀ g∈hs,g.1≠h.1):(fun x=>if x=h.1 then some (hs.length:Int) else holeM hs x)=holeM (hs++[h]):=by
 funext x
 unfold holeM;rw [List.findIdx?_append];by_cases e:x=h.1
 ·subst e;have h1:List.findIdx? (fun g:Hl=>decide (h.1=g.1)) hs=none:=by
   rw [List.findIdx?_eq_none_iff];intro g hg;simp [Ne.symm (hd g hg)]
  rw [iP rfl,h1];simp [List.findIdx?_cons]
 ·rw [iN e];have h2:List.findIdx? (fun g:Hl=>decide (x=g.1)) [h]=none:=by
   rw [List.findIdx?_eq_none_iff];intro g hg;simp at hg;subst hg;simp [e]
  rw [h2];simp
theorem zDy:∀ hs:List Hl,bindsOf hs (startS hs)=hs.map fun h=>(h.1,0,0)
 | []=>rfl
 | h::hs=>by
  have:=zDy hs;unfold bindsOf startS at this ⊢;rw [lC,List.replicate_succ,List.zipWith_cons_cons,this];rfl
theorem zMm (hs:List Hl):boundV (startS hs)=List.replicate hs.length (.bool false):=by
 unfold boundV startS;simp
set_option maxRecDepth 100000
set_option maxHeartbeats 32000000
attribute [local irreducible] Calls
open Go.RowKit
theorem yBu {hole k:Nat} (h1:1≤hole) (h5:hole≤5):mayB hole k=(if hole=1 then decide (26≤k∧k≤48∧k≠38) else if hole=2 then decide (k=26) else if hole=3 then decide (k=27) else if hole=4 then decide (k=26∨(28≤k∧k≤30)∨k=35∨(41≤k∧k≤48)) else decide (49≤k∧k≤68∧k≠62∧k≠64)):=by
 unfold mayB;by_cases e1:hole=1
 ·rw [iP e1,iP e1,Bool.eq_iff_iff];simp [and_assoc]
 rw [iN e1,iN e1];by_cases e2:hole=2
 ·rw [iP e2,iP e2,Bool.eq_iff_iff];simp
 rw [iN e2,iN e2];by_cases e3:hole=3
 ·rw [iP e3,iP e3,Bool.eq_iff_iff];simp
 rw [iN e3,iN e3];by_cases e4:hole=4
 ·rw [iP e4,iP e4,Bool.eq_iff_iff];simp [or_assoc]
 rw [iN e4,iN e4,iP (by omega),Bool.eq_iff_iff];simp [and_assoc]
theorem zWf (hole k:Nat) (h1:1≤hole) (h5:hole≤5) (hk:k<256) (w:World) :
  Calls Tryz.prog 79 #[.int .u8 (hole:Int),.int .u8 (k:Int)] w fun e w'=>e=.returned (.bool (mayB hole k))∧w=w':=by
 have HQ:Hid (∀ x,mayB hole k=x→(fun (e:Ending) w'=>e=.returned (.bool (mayB hole k))∧w=w') (.returned (.bool x)) w):=Hd fun x h=>⟨by rw [h],rfl⟩
 generalize (fun (e:Ending) w'=>e=.returned (.bool (mayB hole k))∧w=w')=Q at *;have hh:hole=1∨hole=2∨hole=3∨hole=4∨hole=5:=by omega
 have HV:=Hd (yBu (k:=k) h1 h5);clear h1 h5;rcases hh with rfl | rfl | rfl | rfl | rfl;all_goals
  go_enter Tryz.func79,Tryz.ntmps79
  go_wp2_with fail;all_goals
   refine HQ.out _ ?_;rw [HV.out,Bool.eq_iff_iff];first
    | (simp;done)
    | (simp;omega)
theorem SkFix.kind {E:SkE} {w:World} (h:SkFix E w) {k:Nat} (hk:k<E.hs.length):∃ b off cap,E.vk=.slice (some ⟨b,off,none⟩) E.hs.length cap∧E.hs.length≤cap∧w.cell? ⟨b,off+k,none⟩=some (.int .u8 (hkind E.hs k:Int)):=by
 obtain ⟨a,cap,hv,hc,hrow⟩:=h.k.open';have hl:(kindsI E.hs).length=E.hs.length:=by unfold kindsI;simp
 obtain ⟨b,off,ha,hlt,hcell⟩:=hrow (by omega);refine ⟨b,off,cap,by rw [hv,hl,ha],by omega,?_⟩;rw [hcell k (by omega)];unfold kindsI hkind;simp [gE hk]
theorem fW (E:SkE) (w:World) (hi:SkFix E w) (hl:E.hs.length≤1048576) (k:Nat) (hk:k<E.hs.length) :
  Calls Tryz.prog 78 #[.pointer (some ⟨E.g,0,none⟩),.int .i64 (k:Int)] w fun e w'=>e=.returned (.bool (isSev (hkind E.hs k)))∧w=w':=by
 have HQ:Hid (∀ x,isSev (hkind E.hs k)=x→(fun (e:Ending) w'=>e=.returned (.bool (isSev (hkind E.hs k)))∧w=w') (.returned (.bool x)) w):=Hd fun x h=>⟨by rw [h],rfl⟩
 generalize (fun (e:Ending) w'=>e=.returned (.bool (isSev (hkind E.hs k)))∧w=w')=Q at *;obtain ⟨b,off,cap,hv,hc,c1⟩:=hi.kind hk;have c5:=hi.cells.2.2.2.2.2.1;rw [hv] at c5;have hk0:(0:Int)≤(k:Int):=by omega
 have hkl:(k:Int)<E.hs.length:=by omega
 have hS:isSev (hkind E.hs k)=(hkind E.hs k == 6 || hkind E.hs k == 7):=rfl;have HS:=Hd hS;clear hS hv hi;generalize hkind E.hs k=x at *;generalize E.hs.length=n at *;generalize E.g=g at *;by_cases h6:x=6
 ·have f1:((x:Int) == 6)=true:=by rw [beq_iff_eq];omega
  have HX:=Hd (HQ.out true (by rw [HS.out,h6];rfl));clear h6;go_enter Tryz.func78,Tryz.ntmps78;go_wp2_with fail;exact HX.out
 ·have f1:((x:Int) == 6)=false:=by rw [bE];omega
  by_cases h7:x=7
  ·have f2:((x:Int) == 7)=true:=by rw [beq_iff_eq];omega
   have HX:=Hd (HQ.out true (by rw [HS.out,h7];rfl));clear h6 h7;go_enter Tryz.func78,Tryz.ntmps78;go_wp2_with fail;exact HX.out
  ·have f2:((x:Int) == 7)=false:=by rw [bE];omega
   have HX:=Hd (HQ.out false (by rw [HS.out];simp [h6,h7]));clear h6 h7;go_enter Tryz.func78,Tryz.ntmps78;go_wp2_with fail;exact HX.out
theorem zIy (a:Option Addr) (w:World) :
  Calls Tryz.prog 78 #[.pointer a,.int .i64 (-1)] w fun e w'=>e=.returned (.bool false)∧w=w':=by
 have HQ:Hid ((fun (e:Ending) w'=>e=.returned (.bool false)∧w=w') (.returned (.bool false)) w):=Hd ⟨rfl,rfl⟩;generalize (fun (e:Ending) w'=>e=.returned (.bool false)∧w=w')=Q at *;go_enter Tryz.func78,Tryz.ntmps78;go_wp2_with fail;exact HQ.out
def holeZ (o:Option Nat):Int:=match o with
 | some h=>(h:Int)
 | none=>-1
theorem zHy {hs:List Hl} {s:ByteArray} {h:Nat} (e:hs.findIdx? (fun x=>decide (s=x.1))=some h):holeM hs s=some (h:Int):=by unfold holeM;rw [e];rfl
theorem zHz {hs:List Hl} {s:ByteArray} (e:hs.findIdx? (fun x=>decide (s=x.1))=none):holeM hs s=none:=by unfold holeM;rw [e];rfl
@[irreducible] def holePost (o:Option Nat) (w:World) (e:Ending) (w':World):Prop:=e=.returned (.int .i64 (holeZ o))∧∃ n,w'=w.drewN n
theorem zFl (E:SkE) (ok:SkOK E) (w:World) (hi:SkFix E w) (p:Nat) (hp:p<E.f.length) :
  Calls Tryz.prog 77 #[.pointer (some ⟨E.g,0,none⟩),.int .i64 (p:Int)] w (holePost (zL E.f E.hs p) w):=by
 have HQ:Hid (∀ o n,zL E.f E.hs p=o→holePost (zL E.f E.hs p) w (.returned (.int .i64 (holeZ o))) (w.drewN n)):=Hd fun o n h=>by
  unfold holePost;rw [h];exact ⟨rfl,n,rfl⟩
 generalize holePost (zL E.f E.hs p) w=Q at *;have hw:=zJ ok.hf.well;have hka:∀ i (h:i<E.f.length),zT E.f i=(E.f[i]).1:=fun i h=>by unfold zT;rw [gE h]
 have hfl:=ok.fl;obtain ⟨fa,fcap,hfv,hfc⟩:=hi.f.slice;have hrow:=hi.f;rw [hfv] at hrow;obtain ⟨b,off,rfl,_,_,hbl,hcell⟩:=hrow.at (bR _ _) (show 0<E.f.length by omega);obtain ⟨d0,_,d2⟩:=hcell p hp;have c0:=hi.cells.1;rw [hfv] at c0;have c4:=hi.cells.2.2.2.2.1;have c5:=hi.cells.2.2.2.2.2.1;have hp0:(0:Int)≤(p:Int):=by omega
 have hpl:(p:Int)<E.f.length:=by omega
 have hpc:(p:Int)<fcap:=by omega
 have hwp:IntKind.i64.wrap ((p:Int)+1)=(p:Int)+1:=wI (by omega);have hlook:∀ s:ByteArray,s.size≤1048576→∀ k,(Instr.lookup 101 (.map (some E.bm)) (.string s) true).run Tryz.prog (w.drewN k)=.ok (.tuple #[.int .i64 ((holeM E.hs s).getD 0),.bool (holeM E.hs s).isSome]) (w.drewN k):=fun s hs k =>
  (hi.m.same (w':=w.drewN k) rfl).ok s (by unfold maxLen;omega)
 have HL:=Hd hlook;have HP:=Hd ((ok.hf.prog p hp).symm);have HC:=Hd hcell;have HI:=Hd hi;have HKA:=Hd hka;have HSZ:=Hd (fun i (h:i<E.f.length)=>(ok.fk.2 _ (gM h)).2);clear hcell hrow hi hka hlook;by_cases h50:(E.f[p]).1=50
 ·obtain ⟨hp1,_⟩:=zCh hw hp (ok.hf.stmt p hp h50);obtain ⟨g0,_,g2⟩:=HC.out (p+1) hp1;have hp1i:(p:Int)+1<E.f.length:=by omega
  have hp1c:(p:Int)+1<fcap:=by omega
  have hp10:(0:Int)≤(p:Int)+1:=by omega
  have hp1n:((p:Int)+1).toNat=p+1:=by omega
  have hgt:(p:Int)<(p:Int)+1:=by omega
  have hgd:decide ((p:Int)<(p:Int)+1)=true:=decide_eq_true hgt;by_cases h26:(E.f[p+1]).1=26
  ·have f1:(((E.f[p]).1:Int) == 50)=true:=by rw [beq_iff_eq];omega
   have f3:(((E.f[p+1]).1:Int) == 26)=true:=by rw [beq_iff_eq];omega
   have f2:(((E.f[p+1]).1:Int) != 26)=false:=by rw [bne_eq_false_iff_eq];omega
   have hho:∀ o,E.hs.findIdx? (fun x=>decide ((E.f[p+1]).2.2=x.1))=o→zL E.f E.hs p=(match o with
     | some h=>if xO (hkind E.hs h) then some h else none
     | none=>none):=fun o ho=>by
    rw [HP.out];unfold holeP;rw [HKA.out p hp,HKA.out (p+1) hp1,iP ⟨h50,h26⟩,gE hp1];simp only [];rw [ho];cases o <;> rfl
   have HHO:=Hd hho;have hsz:=HSZ.out (p+1) hp1;have HLK:=Hd (HL.out (E.f[p+1]).2.2 hsz);clear h50 h26 hho hsz d2;generalize (E.f[p]).1=kp at *;generalize (E.f[p+1]).1=kq at *;generalize (E.f[p+1]).2.2=xp at *;cases hx:E.hs.findIdx? (fun x=>decide (xp=x.1)) with
   | none =>
    have hlk:=HLK.out;rw [zHz hx] at hlk;simp only [Option.getD_none,Option.isSome_none] at hlk;have HX:=Hd (fun n=>HQ.out none n (by rw [HHO.out none hx]));clear hx HLK;go_enter Tryz.func77,Tryz.ntmps77;go_wp2_with fail;go_quiet (fail);go_wp2_with fail;exact HX.out _
   | some h =>
    obtain ⟨hh,hj⟩:=List.findIdx?_eq_some_iff_getElem.1 hx;clear hj;have hlk:=HLK.out;rw [zHy hx] at hlk;simp only [Option.getD_some,Option.isSome_some] at hlk;obtain ⟨kb,koff,kcap,hkv,hkc,k1⟩:=HI.out.kind hh;rw [hkv] at c5;have hh0:(0:Int)≤(h:Int):=by omega
    have hhl:(h:Int)<E.hs.length:=by omega
    have HS:Hid (xO (hkind E.hs h)=(hkind E.hs h == 5 || hkind E.hs h == 7)):=Hd rfl;have hO:=HHO.out (some h) hx;simp only [] at hO;have HO:=Hd hO;clear hO;have hhn:=ok.hn;clear hx HLK hh hkv;generalize hkind E.hs h=x at *;by_cases h5:x=5
    ·have g1:((x:Int) == 5)=true:=by rw [beq_iff_eq];omega
     have HX:=Hd (fun n=>HQ.out (some h) n (by rw [HO.out,HS.out,h5];rfl));clear h5;go_enter Tryz.func77,Tryz.ntmps77;go_wp2_with fail;go_quiet (fail);go_wp2_with fail;exact HX.out _
    ·have g1:((x:Int) == 5)=false:=by rw [bE];omega
     by_cases h7:x=7
     ·have g2:((x:Int) == 7)=true:=by rw [beq_iff_eq];omega
      have HX:=Hd (fun n=>HQ.out (some h) n (by rw [HO.out,HS.out,h7];rfl));clear h5 h7;go_enter Tryz.func77,Tryz.ntmps77;go_wp2_with fail;go_quiet (fail);go_wp2_with fail;exact HX.out _
     ·have g2:((x:Int) == 7)=false:=by rw [bE];omega
      have HX:=Hd (fun n=>HQ.out none n (by rw [HO.out,HS.out];simp [h5,h7]));clear h5 h7;go_enter Tryz.func77,Tryz.ntmps77;go_wp2_with fail;go_quiet (fail);go_wp2_with fail;exact HX.out _
  ·have f1:(((E.f[p]).1:Int) == 50)=true:=by rw [beq_iff_eq];omega
   have f3:(((E.f[p+1]).1:Int) == 26)=false:=by rw [bE];omega
   have f2:(((E.f[p]).1:Int) != 26)=true:=by rw [bne_iff_ne];omega
   have HX:=Hd (HQ.out none 0 (by rw [HP.out];unfold holeP;rw [HKA.out p hp,HKA.out (p+1) hp1,iN (fun h=>h26 h.2),iN (by omega)]));clear h50 h26 d2 g2;generalize (E.f[p]).1=kp at *;generalize (E.f[p+1]).1=kq at *;go_enter Tryz.func77,Tryz.ntmps77;go_wp2_with fail;exact HX.out
 ·by_cases h26:(E.f[p]).1=26
  ·have f1:(((E.f[p]).1:Int) == 50)=false:=by rw [bE];omega
   have f2:(((E.f[p]).1:Int) != 26)=false:=by rw [bne_eq_false_iff_eq];omega
   have hho:∀ o,E.hs.findIdx? (fun x=>decide ((E.f[p]).2.2=x.1))=o→zL E.f E.hs p=(match o with
     | some h=>if xO (hkind E.hs h) then none else some h
     | none=>none):=fun o ho=>by
    rw [HP.out];unfold holeP;rw [HKA.out p hp,iN (fun h=>h50 h.1),iP h26,gE hp];simp only [];rw [ho];cases o <;> rfl
   have HHO:=Hd hho;have hsz:=HSZ.out p hp;have HLK:=Hd (HL.out (E.f[p]).2.2 hsz);clear h50 h26 hho hsz;generalize (E.f[p]).1=kp at *;generalize (E.f[p]).2.2=xp at *;cases hx:E.hs.findIdx? (fun x=>decide (xp=x.1)) with
   | none =>
    have hlk:=HLK.out;rw [zHz hx] at hlk;simp only [Option.getD_none,Option.isSome_none] at hlk;have HX:=Hd (fun n=>HQ.out none n (by rw [HHO.out none hx]));clear hx HLK;go_enter Tryz.func77,Tryz.ntmps77;go_wp2_with fail;go_quiet (fail);go_wp2_with fail;exact HX.out _
   | some h =>
    obtain ⟨hh,hj⟩:=List.findIdx?_eq_some_iff_getElem.1 hx;clear hj;have hlk:=HLK.out;rw [zHy hx] at hlk;simp only [Option.getD_some,Option.isSome_some] at hlk;obtain ⟨kb,koff,kcap,hkv,hkc,k1⟩:=HI.out.kind hh;rw [hkv] at c5;have hh0:(0:Int)≤(h:Int):=by omega
    have hhl:(h:Int)<E.hs.length:=by omega
    have HS:Hid (xO (hkind E.hs h)=(hkind E.hs h == 5 || hkind E.hs h == 7)):=Hd rfl;have hO:=HHO.out (some h) hx;simp only [] at hO;have HO:=Hd hO;clear hO;have hhn:=ok.hn;clear hx HLK hh hkv;generalize hkind E.hs h=x at *;by_cases h5:x=5
    ·have g1:((x:Int) == 5)=true:=by rw [beq_iff_eq];omega
     have HX:=Hd (fun n=>HQ.out none n (by rw [HO.out,HS.out,h5];rfl));clear h5;go_enter Tryz.func77,Tryz.ntmps77;go_wp2_with fail;go_quiet (fail);go_wp2_with fail;exact HX.out _
    ·have g1:((x:Int) == 5)=false:=by rw [bE];omega
     by_cases h7:x=7
     ·have g2:((x:Int) == 7)=true:=by rw [beq_iff_eq];omega
      have HX:=Hd (fun n=>HQ.out none n (by rw [HO.out,HS.out,h7];rfl));clear h5 h7;go_enter Tryz.func77,Tryz.ntmps77;go_wp2_with fail;go_quiet (fail);go_wp2_with fail;exact HX.out _
     ·have g2:((x:Int) == 7)=false:=by rw [bE];omega
      have HX:=Hd (fun n=>HQ.out (some h) n (by rw [HO.out,HS.out];simp [h5,h7]));clear h5 h7;go_enter Tryz.func77,Tryz.ntmps77;go_wp2_with fail;go_quiet (fail);go_wp2_with fail;exact HX.out _
  ·have f1:(((E.f[p]).1:Int) == 50)=false:=by rw [bE];omega
   have f2:(((E.f[p]).1:Int) != 26)=true:=by rw [bne_iff_ne];omega
   have HX:=Hd (HQ.out none 0 (by rw [HP.out];unfold holeP;rw [HKA.out p hp,iN (fun h=>h50 h.1),iN h26]));clear h50 h26;generalize (E.f[p]).1=kp at *;generalize (E.f[p]).2.2=xp at *;go_enter Tryz.func77,Tryz.ntmps77;go_wp2_with fail;exact HX.out
end Go.Proofs.YtbjkdmbcpkopjaaGreatDoor
namespace Go.Proofs.YtbjkdmbcpkopjaaGreatDoor
set_option linter.all false

def shiftB (d:Nat) (b:Bnd):Bnd:=(b.1,b.2.1+(d:Int),b.2.2+(d:Int))
theorem zEw {r:RuleM} {l:List Prt} {i:Int} {τ:MSt} (h:atZ r l i=some τ) (hl:l.length≤1048576):(bindsOf r.holes τ).length=r.holes.length∧∀ b∈bindsOf r.holes τ,(0≤b.2.1∧b.2.1≤1048576)∧(0≤b.2.2∧b.2.2≤1048576):=by
 obtain ⟨h1,h2,h3,h4,h5,h6,h7⟩:=fU h;refine ⟨by unfold bindsOf;rw [List.length_zipWith,h6,Nat.min_self],fun b hb=>?_⟩;obtain ⟨k,hk,rfl⟩:=List.mem_iff_getElem.1 hb;have hk2:k<r.holes.length:=by unfold bindsOf at hk;rw [List.length_zipWith] at hk;omega
 obtain ⟨q,hq,hg⟩:=h7 k hk2;have hk3:k<τ.length:=by omega
 have e:τ[k]=some q:=by rw [gE hk3] at hq;exact Option.some.inj hq
 have e2:(bindsOf r.holes τ)[k]=((r.holes[k]).1,(q.1:Int),(q.2:Int)):=by
  apply Option.some.inj;rw [← gE hk];unfold bindsOf;rw [List.getElem?_zipWith,gE hk2,gE hk3,e];rfl
 rw [e2];have he:=(zP (zJ h2) (show i.toNat<l.length by omega)).2;obtain ⟨g1,g2,g3,_⟩:=hg;simp only [];omega
end Go.Proofs.YtbjkdmbcpkopjaaGreatDoor
