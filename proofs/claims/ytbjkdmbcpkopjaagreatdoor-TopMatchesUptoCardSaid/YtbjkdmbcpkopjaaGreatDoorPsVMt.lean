/- Layer 12: short forms for the walks of the parser. -/
import Derived.Test.YtbjkdmbcpkopjaaGreatDoorPsIMt
import Derived.Test.YtbjkdmbcpkopjaaGreatDoorUntilMt
namespace Go.Proofs.YtbjkdmbcpkopjaaGreatDoor
set_option linter.all false
attribute [local irreducible] Calls
open Go.RowKit

abbrev HPn (E:SynE) (I:List Item) (Q:Ending→World→Prop):Prop:=Hid (∀ W i,St E W i I→Q (panE i) W)
abbrev HRt (E:SynE) (I:List Item) (j:Nat) (a:Int) (Q:Ending→World→Prop):Prop:=Hid (∀ W g k gs ps i,St E W i (.done g k gs ps::I)→j≤i→(ps.length:Int)≤8*((i:Int)-j)+a→Q (.returned (ptrV g)) W)
abbrev HRn (E:SynE) (I:List Item) (n:Nat) (v:Value) (j:Nat) (b:Int) (Q:Ending→World→Prop):Prop:=Hid (∀ W k gs ps i,St E W i (.done n k gs ps::I)→j≤i→(ps.length:Int)≤8*((i:Int)-j)+b→Q (.returned v) W)
theorem SynF.N {E:SynE} (F:Hid (SynF E)):E.N≤1000000:=by have:=F.out.n;unfold SynE.N;omega
theorem mkf:∀ (fn:Fn) (first cap:Array Value) (w:World),(Instr.makeFunc fn first cap).run Tryz.prog w=.ok (.func fn first cap) w:=fun _ _ _ _=>rfl
section
variable {α:Type} {a b c d e f g h i j:α} {l:List α}
theorem t0:a∈a::l:=.head _
theorem t1:b∈a::b::l:=.tail _ t0
theorem t2:c∈a::b::c::l:=.tail _ t1
theorem t3:d∈a::b::c::d::l:=.tail _ t2
theorem t4:e∈a::b::c::d::e::l:=.tail _ t3
theorem t5:f∈a::b::c::d::e::f::l:=.tail _ t4
theorem t6:g∈a::b::c::d::e::f::g::l:=.tail _ t5
theorem t7:h∈a::b::c::d::e::f::g::h::l:=.tail _ t6
theorem t8:i∈a::b::c::d::e::f::g::h::i::l:=.tail _ t7
theorem t9:j∈a::b::c::d::e::f::g::h::i::j::l:=.tail _ t8
end
section
variable {E:SynE} {W:World} {j:Nat} {I I0:List Item} {Q Q':Ending→World→Prop} {f:FuncId} {args:Array Value} {a:Int} {r m:Nat}
theorem okI (HF:Hid (SynF E)) (k:∀ W j I Q,HPn E I Q→HRt E I j a Q→Hid (St E W j I)→E.N≤1000000→j≤E.N→64*(E.N-j)+r<m+1→Calls Tryz.prog f #[ptrV E.gr] W Q):Ok E f r a (m+1):=fun W j I h hm =>
 k W j I _ (Hd fun W i h=>PNd.pan h) (Hd fun W g k gs ps i h h1 h2=>PNd.ret h h1 h2) (Hd h) (SynF.N HF) h.r.le hm
theorem okJ (HF:Hid (SynF E)) (k:∀ W j I Q,HPn E I Q→HRt E I j a Q→Hid (St E W j I)→E.N≤1000000→j≤E.N→j+1≤E.N→64*(E.N-j)+r<m+1→Calls Tryz.prog f #[ptrV E.gr] W Q):OkN E f r a (m+1):=fun W j I h hj hm =>
 k W j I _ (Hd fun W i h=>PNd.pan h) (Hd fun W g k gs ps i h h1 h2=>PNd.ret h h1 h2) (Hd h) (SynF.N HF) h.r.le hj hm
theorem pnI (HF:Hid (SynF E)) (HS:Hid (St E W j I)) (k:∀ Q,HPn E I Q→HRt E I j a Q→E.N≤1000000→j≤E.N→Calls Tryz.prog f args W Q):Calls Tryz.prog f args W (PNd E I j a) :=
 k _ (Hd fun W i h=>PNd.pan h) (Hd fun W g k gs ps i h h1 h2=>PNd.ret h h1 h2) (SynF.N HF) HS.out.r.le
theorem nnI {n i:Nat} {v:Value} (HF:Hid (SynF E)) {J:List Item} (HS:Hid (St E W j J)) (k:∀ Q,HPn E I Q→HRn E I n v i a Q→E.N≤1000000→j≤E.N→Calls Tryz.prog f args W Q):Calls Tryz.prog f args W (PNn E I n v i a) :=
 k _ (Hd fun W i h=>by unfold PNn;exact Or.inr ⟨i,rfl,h⟩) (Hd fun W k gs ps i h h1 h2=>by unfold PNn;exact Or.inl ⟨k,gs,ps,i,rfl,h,h1,h2⟩) (SynF.N HF) HS.out.r.le
theorem mV (h:Calls Tryz.prog f args W (PNd E I j a)) (hp:∀ i W',St E W' i I→Q' (panE i) W') (k:∀ g k s p i W',Hid (St E W' i (.done g k s p::I))→(j≤i∧i≤E.N∧1≤p.length∧(p.length:Int)≤8*((i:Int)-j)+a)→Q' (.returned (ptrV g)) W'):Calls Tryz.prog f args W Q' :=
 h.mono fun e W' h'=>by
  rcases h'.go with ⟨i,rfl,hs⟩ | ⟨g,k',s,p,i,rfl,hs,hi⟩
  ·exact hp _ _ hs
  ·exact k _ _ _ _ _ _ hs hi
theorem mN (h:Calls Tryz.prog f args W (PNd E I j a)) (HP:HPn E I0 Q) (n:Nat) (k:∀ g k s p i W',Hid (St E W' i (.done g k s p::I))→(j≤i∧i≤E.N∧1≤p.length∧(p.length:Int)≤8*((i:Int)-j)+a)→Q' (.returned (ptrV g)) W')
  (hI:I.drop n=I0:=by rfl) (hq:∀ i W',Q (panE i) W'→Q' (panE i) W':=by exact fun _ _ h=>⟨rfl,h⟩):Calls Tryz.prog f args W Q' :=
 mV h (fun i W' hs=>hq _ _ (HP.out _ _ (hI ▸ hs.sub (List.drop_sublist n I)))) k
theorem mO (h:Ok E f r a m) (HS:Hid (St E W j I)) (HP:HPn E I0 Q) (n:Nat) (k:∀ g k s p i W',Hid (St E W' i (.done g k s p::I))→(j≤i∧i≤E.N∧1≤p.length∧(p.length:Int)≤8*((i:Int)-j)+a)→Q' (.returned (ptrV g)) W')
  (hm:64*(E.N-j)+r<m:=by omega) (hI:I.drop n=I0:=by rfl) (hq:∀ i W',Q (panE i) W'→Q' (panE i) W':=by exact fun _ _ h=>⟨rfl,h⟩):Calls Tryz.prog f #[ptrV E.gr] W Q' :=
 mN (h W j I HS.out hm) HP n k hI hq
theorem mO1 (h:OkN E f r a m) (HS:Hid (St E W j I)) (HP:HPn E I0 Q) (n:Nat) (k:∀ g k s p i W',Hid (St E W' i (.done g k s p::I))→(j≤i∧i≤E.N∧1≤p.length∧(p.length:Int)≤8*((i:Int)-j)+a)→Q' (.returned (ptrV g)) W')
  (hj:j+1≤E.N:=by omega) (hm:64*(E.N-j)+r<m:=by omega) (hI:I.drop n=I0:=by rfl) (hq:∀ i W',Q (panE i) W'→Q' (panE i) W':=by exact fun _ _ h=>⟨rfl,h⟩):Calls Tryz.prog f #[ptrV E.gr] W Q' :=
 mN (h W j I HS.out hj hm) HP n k hI hq
theorem mBi (HI:Hid (IH E m)) (l:Nat) (HS:Hid (St E W j I)) (HP:HPn E I0 Q) (n:Nat) (k:∀ g k s p i W',Hid (St E W' i (.done g k s p::I))→(j≤i∧i≤E.N∧1≤p.length∧(p.length:Int)≤8*((i:Int)-j)-7)→Q' (.returned (ptrV g)) W')
  (h1:1≤l:=by omega) (h6:l≤6:=by omega) (hm:64*(E.N-j)+10<m:=by omega) (hI:I.drop n=I0:=by rfl) (hq:∀ i W',Q (panE i) W'→Q' (panE i) W':=by exact fun _ _ h=>⟨rfl,h⟩):Calls Tryz.prog 58 #[ptrV E.gr,.int .i64 (l:Int)] W Q' :=
 mN (HI.out.binary l h1 h6 W j I HS.out hm) HP n k hI hq
theorem mY (h:Ok E f r a m) (hv:FnV (.func (.func f) #[ptrV E.gr] #[]) f #[ptrV E.gr]) (HS:Hid (St E W j I)) (HP:HPn E I0 Q) (n:Nat) (k:∀ g k s p i W',Hid (St E W' i (.done g k s p::I))→(j≤i∧i≤E.N∧1≤p.length∧(p.length:Int)≤8*((i:Int)-j)+a)→Q' (.returned (ptrV g)) W')
  (hm:64*(E.N-j)+r<m:=by omega) (hI:I.drop n=I0:=by rfl) (hq:∀ i W',Q (panE i) W'→Q' (panE i) W':=by exact fun _ _ h=>⟨rfl,h⟩):Calls Tryz.prog 56 #[ptrV E.gr,.func (.func f) #[ptrV E.gr] #[]] W Q' :=
 mN (gY (PNd.tightQ _ _ _) hv HS.out (fun W' h'=>h _ _ _ h' hm)) HP n k hI hq
theorem mH (h:Ok E f r a m) (hv:FnV (.func (.func f) #[ptrV E.gr] #[]) f #[ptrV E.gr]) (HS:Hid (St E W j I)) (HP:HPn E I0 Q) (n:Nat) (k:∀ g k s p i W',Hid (St E W' i (.done g k s p::I))→(j≤i∧i≤E.N∧1≤p.length∧(p.length:Int)≤8*((i:Int)-j)+a)→Q' (.returned (ptrV g)) W')
  (hm:64*(E.N-j)+r<m:=by omega) (hI:I.drop n=I0:=by rfl) (hq:∀ i W',Q (panE i) W'→Q' (panE i) W':=by exact fun _ _ h=>⟨rfl,h⟩):Calls Tryz.prog 192 #[ptrV E.gr,.func (.func f) #[ptrV E.gr] #[]] W Q' :=
 mN (zOa (PNd.tightQ _ _ _) hv HS.out (fun W' h'=>h _ _ _ h' hm)) HP n k hI hq
theorem mL {kk:Nat} {ok:Bool} (h:Calls Tryz.prog f args W (PL E I j kk ok)) (HP:HPn E I0 Q) (n:Nat) (k:∀ g i W',Hid (St E W' i (.done g kk [] [(kk,0,textZ E kk j)]::I))→(j<i∧i≤j+1∧i≤E.N)→Q' (.returned (ptrV g)) W')
  (hI:I.drop n=I0:=by rfl) (hq:∀ i W',Q (panE i) W'→Q' (panE i) W':=by exact fun _ _ h=>⟨rfl,h⟩):Calls Tryz.prog f args W Q' :=
 h.mono fun e W' h'=>by
  rcases h'.go with ⟨rfl,hs⟩ | ⟨g,i,rfl,hs,hi⟩
  ·exact hq _ _ (HP.out _ _ (hI ▸ hs.sub (List.drop_sublist n I)))
  ·exact k _ _ _ hs hi
theorem mA (HF:Hid (SynF E)) (HS:Hid (St E W j I)) (HP:HPn E I0 Q) (n:Nat) (k:∀ g i W',Hid (St E W' i (.done g 26 [] [(26,0,textZ E 26 j)]::I))→(j<i∧i≤j+1∧i≤E.N)→Q' (.returned (ptrV g)) W')
  (hI:I.drop n=I0:=by rfl) (hq:∀ i W',Q (panE i) W'→Q' (panE i) W':=by exact fun _ _ h=>⟨rfl,h⟩):Calls Tryz.prog 62 #[ptrV E.gr] W Q':=mL (zNv HF.out HS.out) HP n k hI hq
theorem mW (HF:Hid (SynF E)) (HS:Hid (St E W j I)) (w:List UInt8) (HP:HPn E I0 Q) (n:Nat) (k:∀ i W',Hid (St E W' i I)→(j<i∧i≤j+1∧i≤E.N)→Q' (.returned (.tuple #[])) W')
  (hw:w≠[]:=by decide) (hI:I.drop n=I0:=by rfl) (hq:∀ i W',Q (panE i) W'→Q' (panE i) W':=by exact fun _ _ h=>⟨rfl,h⟩):Calls Tryz.prog 61 #[ptrV E.gr,.string ⟨w.toArray⟩] W Q' :=
 (zGv HF.out HS.out w hw).mono fun e W' h'=>by
  rcases h'.go with ⟨rfl,hs⟩ | ⟨i,rfl,hs,hi⟩
  ·exact hq _ _ (HP.out _ _ (hI ▸ hs.sub (List.drop_sublist n I)))
  ·exact k _ _ hs hi
theorem mMf (HF:Hid (SynF E)) (HS:Hid (St E W j I)) (w:List UInt8) (y:∀ i W',Hid (St E W' i I)→(j<i∧i≤j+1∧i≤E.N)→Q' (.returned (.bool true)) W') (n:∀ W',Hid (St E W' j I)→isW E j w=false→Q' (.returned (.bool false)) W') (hw:w≠[]:=by decide):Calls Tryz.prog 43 #[ptrV E.gr,.string ⟨w.toArray⟩] W Q' :=
 (zJq HF.out HS.out w hw).mono fun e W' h'=>by
  rcases h'.go with ⟨i,rfl,hs,hi⟩ | ⟨hf,rfl,hs⟩
  ·exact y _ _ hs hi
  ·exact n _ hs hf
theorem mM (HF:Hid (SynF E)) (HS:Hid (St E W j I)) (w:List UInt8) (y:∀ i W',Hid (St E W' i I)→(j<i∧i≤j+1∧i≤E.N)→Q' (.returned (.bool true)) W') (n:∀ W',Hid (St E W' j I)→Q' (.returned (.bool false)) W') (hw:w≠[]:=by decide):Calls Tryz.prog 43 #[ptrV E.gr,.string ⟨w.toArray⟩] W Q':=mMf HF HS w y (fun W' h _=>n W' h) hw
theorem mQ {v:Value} (h:Calls Tryz.prog f args W (QE v W)) (HS:Hid (St E W j I)) (k:∀ W',Hid (St E W' j I)→Q' (.returned v) W'):Calls Tryz.prog f args W Q' :=
 h.mono fun e W' h'=>by obtain ⟨rfl,hb⟩:=h';exact k _ (Hd (HS.out.ext hb))
theorem mX (HF:Hid (SynF E)) (HS:Hid (St E W j I)) (k:∀ W',Hid (St E W' j I)→Q' (.returned (.string (wordZ E j))) W'):Calls Tryz.prog 63 #[ptrV E.gr] W Q':=mQ (jX HF.out HS.out.r) HS k
theorem mT (h:Calls Tryz.prog f args W (QB W)) (HS:Hid (St E W j I)) (k:∀ b W',Hid (St E W' j I)→Q' (.returned (.bool b)) W'):Calls Tryz.prog f args W Q' :=
 h.mono fun e W' h'=>by obtain ⟨b,rfl,hb⟩:=h'.out;exact k _ _ (Hd (HS.out.ext hb))
theorem mF (HS:Hid (St E W j I)) (HP:HPn E I0 Q) (n:Nat) (hI:I.drop n=I0:=by rfl) (hq:∀ i W',Q (panE i) W'→Q' (panE i) W':=by exact fun _ _ h=>⟨rfl,h⟩):Calls Tryz.prog 45 #[ptrV E.gr] W Q' :=
 (gX HS.out.r).mono fun e W' h'=>by obtain ⟨rfl,hb⟩:=h';exact hq _ _ (HP.out _ _ (hI ▸ (HS.out.ext hb).sub (List.drop_sublist n I)))
theorem mP (HS:Hid (St E W j I)) (kd:Nat) (k:∀ g W',Hid (St E W' j (.raw g (nodeC kd (-1) j 0 (.slice none 0 0))::.row (.slice none 0 0) [] []::I))→Q' (.returned (ptrV g)) W') (hk:kd<256:=by decide):Calls Tryz.prog 60 #[ptrV E.gr,.int .u8 (kd:Int)] W Q' :=
 (zYl HS.out kd hk).mono fun e W' h'=>by obtain ⟨g,rfl,hs⟩:=h'.go;exact k _ _ hs
theorem mZ (HS:Hid (St E W j I)) (kd:Nat) (k:∀ g W',Hid (St E W' j (.done g kd [] [(kd,0,textZ E kd (-1))]::I))→Q' (.returned (ptrV g)) W') (hk:kd<256∧leastK kd=0:=by decide):Calls Tryz.prog 97 #[ptrV E.gr,.int .u8 (kd:Int)] W Q' :=
 (zNu HS.out kd hk.1).mono fun e W' h'=>by obtain ⟨g,rfl,hs⟩:=h'.no hk;exact k _ _ hs
theorem mD (HF:Hid (SynF E)) {v:Value} {gs:List Nat} {ps:List Prt} (HS:Hid (St E W j (.row v gs ps::I))) (kd:Nat) (k:∀ g W',Hid (St E W' j (.done g kd gs ((kd,(gs.length:Int),textZ E kd (-1))::ps)::I))→Q' (.returned (ptrV g)) W') (hk:kd<256∧leastK kd=0:=by decide) (hl:gs.length≤1000000000:=by omega):Calls Tryz.prog 65 #[ptrV E.gr,.int .u8 (kd:Int),v] W Q' :=
 (zYm HF.out HS.out kd hk hl).mono fun e W' h'=>by obtain ⟨g,rfl,hs⟩:=h'.go;exact k _ _ hs
theorem mK {A:List Item} {n kd:Nat} {w:Int} {gs:List Nat} {ps:List Prt} (h:Calls Tryz.prog f args W (PC E I A j n kd w gs ps)) (k:∀ W',Hid (St E W' j (A++.done n kd gs ((kd,(gs.length:Int),textZ E kd w)::ps)::I))→Q' (.returned (ptrV n)) W'):Calls Tryz.prog f args W Q' :=
 h.mono fun e W' h'=>by obtain ⟨rfl,hs⟩:=h'.go;exact k _ hs
theorem mC (HF:Hid (SynF E)) (A:List Item) {n kd:Nat} {w f t:Int} {v:Value} {gs:List Nat} {ps:List Prt} (HS:Hid (St E W j (A++.raw n (nodeC kd w f t v)::.row v gs ps::I))) {us:List Nat} {psu:List Prt} (hg:GoodS E W (FrB E W (A++.raw n (nodeC kd w f t v)::.row v gs ps::I)) us psu)
  (k:∀ W',Hid (St E W' j (A++.done n kd (gs++us) ((kd,((gs++us).length:Int),textZ E kd w)::(ps++psu))::I))→Q' (.returned (ptrV n)) W') {C:Array Value} {c b:Nat} (hC:C=(ptrsV us).toArray:=by rfl) (hl:gs.length+us.length≤1000000000:=by (try simp);try omega)
  (hw:-1≤w∧w<E.N:=by omega) (hk:kd<256∧leastK kd≤gs.length+us.length:=by refine ⟨by decide,?_⟩;(try simp [leastK]);try omega) (hc:us.length≤c:=by exact nR _) (hb:b=W.heap.size:=by (try simp);try rfl):Calls Tryz.prog 67 #[ptrV E.gr,ptrV n,.slice (some ⟨b,0,none⟩) us.length c] (W.alloc (.cells C 61)) Q' :=
 mK (zRf HF.out A HS.out hg hC hl hw hk hc hb) k
section
variable {g1 g2 g3 g4 g5 k1 k2 k3 k4 k5:Nat} {s1 s2 s3 s4 s5:List Nat} {p1 p2 p3 p4 p5:List Prt}
theorem gs1 (h:Hid (St E W j (.done g1 k1 s1 p1::I))):GoodS E W (FrB E W (.done g1 k1 s1 p1::I)) [g1] (p1++[]):=.cons (h.out.ok _ t0) (.nil _ _ _)
theorem gs2 (h:Hid (St E W j (.done g2 k2 s2 p2::.done g1 k1 s1 p1::I))):GoodS E W (FrB E W (.done g2 k2 s2 p2::.done g1 k1 s1 p1::I)) [g1,g2] (p1++(p2++[])):=.cons (h.out.ok _ t1) (.cons (h.out.ok _ t0) (.nil _ _ _))
theorem gs3 (h:Hid (St E W j (.done g3 k3 s3 p3::.done g2 k2 s2 p2::.done g1 k1 s1 p1::I))):GoodS E W (FrB E W (.done g3 k3 s3 p3::.done g2 k2 s2 p2::.done g1 k1 s1 p1::I)) [g1,g2,g3] (p1++(p2++(p3++[]))):=.cons (h.out.ok _ t2) (.cons (h.out.ok _ t1) (.cons (h.out.ok _ t0) (.nil _ _ _)))
theorem gs4 (h:Hid (St E W j (.done g4 k4 s4 p4::.done g3 k3 s3 p3::.done g2 k2 s2 p2::.done g1 k1 s1 p1::I))):GoodS E W (FrB E W (.done g4 k4 s4 p4::.done g3 k3 s3 p3::.done g2 k2 s2 p2::.done g1 k1 s1 p1::I)) [g1,g2,g3,g4] (p1++(p2++(p3++(p4++[])))):=.cons (h.out.ok _ t3) (.cons (h.out.ok _ t2) (.cons (h.out.ok _ t1) (.cons (h.out.ok _ t0) (.nil _ _ _))))
end
theorem mE {n i:Nat} {v:Value} (h:Calls Tryz.prog f args W (PNn E I n v i a)) (HP:HPn E I0 Q) (m:Nat) (k:∀ k s p l W',Hid (St E W' l (.done n k s p::I))→(i≤l∧l≤E.N∧1≤p.length∧(p.length:Int)≤8*((l:Int)-i)+a)→Q' (.returned v) W')
  (hI:I.drop m=I0:=by rfl) (hq:∀ i W',Q (panE i) W'→Q' (panE i) W':=by exact fun _ _ h=>⟨rfl,h⟩):Calls Tryz.prog f args W Q' :=
 h.mono fun e W' h'=>by
  rcases h'.go with ⟨i,rfl,hs⟩ | ⟨k',s,p,i,rfl,hs,hi⟩
  ·exact hq _ _ (HP.out _ _ (hI ▸ hs.sub (List.drop_sublist m I)))
  ·exact k _ _ _ _ _ hs hi
theorem mR (HF:Hid (SynF E)) (HS:Hid (St E W j I)) (opn mrk shut:List UInt8) {v:Value} {fk:FuncId} {fa:Array Value} (hv:FnV v fk fa) (b:Int) (hc:∀ W' i J,j<i→St E W' i (J::I)→Calls Tryz.prog fk fa W' (PNd E (J::I) i b)) (HP:HPn E I0 Q) (n:Nat)
  (k:∀ a n c s p i W',Hid (St E W' i (.row (.slice a n c) s p::I))→(j<i∧i≤E.N∧(p.length:Int)≤8*((i:Int)-j)-8∧s.length≤i-j)→Q' (.returned (.slice a n c)) W') (hx:opn≠[]∧mrk≠[]∧shut≠[]∧b≤0:=by decide)
  (hI:I.drop n=I0:=by rfl) (hq:∀ i W',Q (panE i) W'→Q' (panE i) W':=by exact fun _ _ h=>⟨rfl,h⟩):Calls Tryz.prog 104 #[ptrV E.gr,.string ⟨opn.toArray⟩,.string ⟨mrk.toArray⟩,.string ⟨shut.toArray⟩,v] W Q' :=
 (zUz HF.out HS.out opn mrk shut hx.1 hx.2.1 hx.2.2.1 hv b hx.2.2.2 hc).mono fun e W' h'=>by
  rcases h'.go with ⟨_,i,rfl,hs⟩ | ⟨a,n,c,s,p,_,i,rfl,hs,hi⟩
  ·exact hq _ _ (HP.out _ _ (hI ▸ hs.sub (List.drop_sublist n I)))
  ·exact k _ _ _ _ _ _ _ hs hi
theorem mR1 (HF:Hid (SynF E)) (HS:Hid (St E W j I)) (opn mrk shut:List UInt8) (h:Ok E f r a m) (hv:FnV (.func (.func f) #[ptrV E.gr] #[]) f #[ptrV E.gr]) (HP:HPn E I0 Q) (n:Nat)
  (k:∀ a n c s p i W',Hid (St E W' i (.row (.slice a n c) s p::I))→(j<i∧i≤E.N∧(p.length:Int)≤8*((i:Int)-j)-8∧s.length≤i-j)→Q' (.returned (.slice a n c)) W') (hm:64*(E.N-j)+r<m+64:=by omega) (hx:opn≠[]∧mrk≠[]∧shut≠[]∧a≤0:=by decide)
  (hI:I.drop n=I0:=by rfl) (hq:∀ i W',Q (panE i) W'→Q' (panE i) W':=by exact fun _ _ h=>⟨rfl,h⟩):Calls Tryz.prog 104 #[ptrV E.gr,.string ⟨opn.toArray⟩,.string ⟨mrk.toArray⟩,.string ⟨shut.toArray⟩,.func (.func f) #[ptrV E.gr] #[]] W Q' :=
 mR HF HS opn mrk shut hv a (fun W' i J h1 h2=>h _ _ _ h2 (by have:=h2.r.le;omega)) HP n k hx hI hq
theorem rQ {W:World} {g k i:Nat} {gs:List Nat} {ps:List Prt} (HQ:HRt E I j a Q) (h:St E W i (.done g k gs ps::I)) (h1:j≤i:=by omega) (h2:(ps.length:Int)≤8*((i:Int)-j)+a:=by (try simp only [lC,lA,lN] at *);omega):Q (.returned (ptrV g)) W:=HQ.out _ _ _ _ _ _ h h1 h2
theorem rN {W:World} {n k i:Nat} {v:Value} {gs:List Nat} {ps:List Prt} (HQ:HRn E I n v j a Q) (h:St E W i (.done n k gs ps::I)) (h1:j≤i:=by omega) (h2:(ps.length:Int)≤8*((i:Int)-j)+a:=by (try simp only [lC,lA,lN] at *);omega):Q (.returned v) W:=HQ.out _ _ _ _ _ h h1 h2
theorem mS {p:Prop} (E:SynE) (j:Nat) (l:List UInt8) (y:(wordZ E j).toList=l→j+1≤E.N→p) (n:((wordZ E j).toList == l)=false→p) (hl:l≠[]:=by decide):p:=by
 by_cases h:(wordZ E j).toList=l
 ·exact y h (jD h hl)
 ·exact n (nq h)
theorem mI {WB:World} {J:List Item} (HB:Hid (St E WB j J)) (HS:Hid (St E W j I)) (hN:E.N≤1000000) (h:j+1≤E.N:=by omega):IntKind.i64.wrap ((j:Int)+1)=(j:Int)+1∧WB.cell? ⟨E.gr,3,none⟩=some (.int .i64 (j:Int))∧WB.frozen? ⟨E.gr,3,none⟩=false ∧
  ∃ i,Hid (St E (W.setCell ⟨E.gr,3,none⟩ (.int .i64 ((j:Int)+1))) i I)∧(j<i∧i≤j+1∧i≤E.N):=⟨wi64 _ (by omega),HB.out.r.c3,HB.out.r.z 3,HS.out.inc h⟩
end
theorem zOe {E:SynE}:FnV (.func (.func 59) #[ptrV E.gr] #[]) 59 #[ptrV E.gr]:=FnV.meth Tryz.func59 (by kernel_rfl) rfl #[ptrV E.gr]
theorem zRg {E:SynE}:FnV (.func (.func 57) #[ptrV E.gr] #[]) 57 #[ptrV E.gr]:=FnV.meth Tryz.func57 (by kernel_rfl) rfl #[ptrV E.gr]
theorem zYq {E:SynE}:FnV (.func (.func 107) #[ptrV E.gr] #[]) 107 #[ptrV E.gr]:=FnV.meth Tryz.func107 (by kernel_rfl) rfl #[ptrV E.gr]
theorem zBa {E:SynE}:FnV (.func (.func 40) #[ptrV E.gr] #[]) 40 #[ptrV E.gr]:=FnV.meth Tryz.func40 (by kernel_rfl) rfl #[ptrV E.gr]
theorem jY {E:SynE}:FnV (.func (.func 163) #[ptrV E.gr] #[]) 163 #[ptrV E.gr]:=FnV.meth Tryz.func163 (by kernel_rfl) rfl #[ptrV E.gr]
theorem zLh {E:SynE}:FnV (.func (.func 90) #[ptrV E.gr] #[]) 90 #[ptrV E.gr]:=FnV.meth Tryz.func90 (by kernel_rfl) rfl #[ptrV E.gr]
theorem jR {E:SynE}:FnV (.func (.func 129) #[ptrV E.gr] #[]) 129 #[ptrV E.gr]:=FnV.meth Tryz.func129 (by kernel_rfl) rfl #[ptrV E.gr]
theorem zYr {E:SynE}:FnV (.func (.func 39) #[ptrV E.gr] #[]) 39 #[ptrV E.gr]:=FnV.meth Tryz.func39 (by kernel_rfl) rfl #[ptrV E.gr]
theorem zYs {E:SynE}:FnV (.func (.func 133) #[ptrV E.gr] #[]) 133 #[ptrV E.gr]:=FnV.meth Tryz.func133 (by kernel_rfl) rfl #[ptrV E.gr]
theorem zRh {E:SynE}:FnV (.func (.func 191) #[ptrV E.gr] #[]) 191 #[ptrV E.gr]:=FnV.meth Tryz.func191 (by kernel_rfl) rfl #[ptrV E.gr]
theorem zIu {E:SynE}:FnV (.func (.func 101) #[ptrV E.gr] #[]) 101 #[ptrV E.gr]:=FnV.meth Tryz.func101 (by kernel_rfl) rfl #[ptrV E.gr]
theorem zLi {E:SynE}:FnV (.func (.func 102) #[ptrV E.gr] #[]) 102 #[ptrV E.gr]:=FnV.meth Tryz.func102 (by kernel_rfl) rfl #[ptrV E.gr]
theorem zOf {E:SynE}:FnV (.func (.func 103) #[ptrV E.gr] #[]) 103 #[ptrV E.gr]:=FnV.meth Tryz.func103 (by kernel_rfl) rfl #[ptrV E.gr]
theorem zLj {E:SynE}:FnV (.func (.func 100) #[ptrV E.gr] #[]) 100 #[ptrV E.gr]:=FnV.meth Tryz.func100 (by kernel_rfl) rfl #[ptrV E.gr]
theorem zYt {E:SynE}:FnV (.func (.func 92) #[ptrV E.gr] #[]) 92 #[ptrV E.gr]:=FnV.meth Tryz.func92 (by kernel_rfl) rfl #[ptrV E.gr]
theorem yBi {E:SynE}:FnV (.func (.func 93) #[ptrV E.gr] #[]) 93 #[ptrV E.gr]:=FnV.meth Tryz.func93 (by kernel_rfl) rfl #[ptrV E.gr]
theorem zHa {E:SynE}:FnV (.func (.func 196) #[ptrV E.gr] #[]) 196 #[ptrV E.gr]:=FnV.meth Tryz.func196 (by kernel_rfl) rfl #[ptrV E.gr]
set_option maxRecDepth 100000
set_option maxHeartbeats 32000000
attribute [local irreducible] wpStill
section
variable {E:SynE}
theorem zLc {m:Nat} (HF:Hid (SynF E)) (HI:Hid (IH E m)):Ok E 90 7 (-13) (m+1):=by
 refine okI HF fun W j I Q HP HQ HS hN hj hm=>?_;go_enter Tryz.func90,Tryz.ntmps90;go_wp2_with fail;refine mP HS 9 fun g1 w1 HS1=>?_;go_wp2_with fail;refine mO HI.out.params HS1 HP 2 fun g2 k2 s2 p2 i2 w2 HS2 hi2=>?_;go_wp2_with fail;refine mZ HS2 0 fun g3 w3 HS3=>?_;go_wp2_with fail;refine mX HF HS3 fun w4 HS4=>?_;refine mS E i2 [40] (fun hx5 hp5=>?_) fun hn5=>?_
 ·go_wp2_with fail;refine mO HI.out.params HS4 HP 4 fun g6 k6 s6 p6 i6 w6 HS6 hi6=>?_;clear hx5 hp5 HS4;go_wp2_with fail;refine mC HF [_,_,_] HS6 (.cons (HS6.out.ok _ t2) (.cons (HS6.out.ok _ t0) (.nil _ _ _))) (fun w7 HS7=>?_);go_wp2_with fail;exact rQ HQ HS7.out.tl.tl.tl
 by_cases hx8:(wordZ E i2).toList=[91]∨(wordZ E i2).toList=[42]∨(wordZ E i2).toList=[115,116,114,117,99,116]∨(wordZ E i2).toList=[109,97,112]∨(wordZ E i2).toList=[99,104,97,110]∨(wordZ E i2).toList=[105,110,116,101,114,102,97,99,101]∨(wordZ E i2).toList=[102,117,110,99]∨(wordZ E i2).toList=[60,45]
 ·rcases hx8 with hx8 | hx8 | hx8 | hx8 | hx8 | hx8 | hx8 | hx8;all_goals
   have hp8:=jD hx8 (by decide);go_wp2_with fail;refine mO HI.out.typ HS4 HP 4 fun g9 k9 s9 p9 i9 w9 HS9 hi9=>?_;clear hn5 hx8 hp8 HS4;go_wp2_with fail;refine mC HF [_,_,_] HS9 (.cons (HS9.out.ok _ t2) (.cons (HS9.out.ok _ t0) (.nil _ _ _))) (fun w10 HS10=>?_);go_wp2_with fail;exact rQ HQ HS10.out.tl.tl.tl
 simp only [not_or] at hx8;obtain ⟨hn11,hn12,hn13,hn14,hn15,hn16,hn17,hn18⟩:=hx8;replace hn11:=nq hn11;replace hn12:=nq hn12;replace hn13:=nq hn13;replace hn14:=nq hn14;replace hn15:=nq hn15;replace hn16:=nq hn16;replace hn17:=nq hn17;replace hn18:=nq hn18;have c3:=HS4.out.r.c3;have z3:=HS4.out.r.z 3;go_wp2_with fail;refine mQ (xR HF.out HS4.out.r ((i2:Int)) (by omega)) HS4 fun w19 HS19=>?_;clear c3 z3 HS4;cases hx20:namedB E (i2:Int) with
 | true =>
  go_wp2_with fail;refine mO HI.out.typ HS19 HP 4 fun g21 k21 s21 p21 i21 w21 HS21 hi21=>?_;clear hn5 hn11 hn12 hn13 hn14 hn15 hn16 hn17 hn18 hx20 HS19;go_wp2_with fail;refine mC HF [_,_,_] HS21 (.cons (HS21.out.ok _ t2) (.cons (HS21.out.ok _ t0) (.nil _ _ _))) (fun w22 HS22=>?_);go_wp2_with fail;exact rQ HQ HS22.out.tl.tl.tl
 | false =>
  go_wp2_with fail;refine mC HF [_,_] HS19 (gs2 HS19) (fun w23 HS23=>?_);go_wp2_with fail;exact rQ HQ HS23.out.tl.tl
theorem zUr {m:Nat} (HF:Hid (SynF E)) (HI:Hid (IH E m)):Ok E 105 2 (-15) (m+1):=by
 refine okI HF fun W j I Q HP HQ HS hN hj hm=>?_;have hmf:=mkf;go_enter Tryz.func105,Tryz.ntmps105;go_wp2_with fail;refine mP HS 14 fun g1 w1 HS1=>?_;go_wp2_with fail;refine mR1 HF HS1 [40] [44] [41] HI.out.param zYs HP 2 fun a2 n2 c2 s2 p2 i2 w2 HS2 hi2=>?_;go_wp2_with fail;refine mW HF HS2 [41] HP 3 fun i3 w3 HS3 hi3=>?_;go_wp2_with fail;refine mK (kN HF.out [_] HS3.out t0 (by simp;omega) ⟨by omega,by omega⟩ ⟨by decide,by simp [leastK]⟩) fun w4 HS4=>?_;go_wp2_with fail;exact rQ HQ HS4.out.tl
theorem zYd {m:Nat} (HF:Hid (SynF E)) (HI:Hid (IH E m)):Ok E 133 7 (-5) (m+1):=by
 refine okI HF fun W j I Q HP HQ HS hN hj hm=>?_;go_enter Tryz.func133,Tryz.ntmps133;go_wp2_with fail;refine mP HS 15 fun g1 w1 HS1=>?_;go_wp2_with fail;refine mZ HS1 0 fun g2 w2 HS2=>?_;go_wp2_with fail;refine mT (zYn HF.out HS2.out.r) HS2 fun bb w3 HS3=>?_;cases bb with
 | true =>
  go_wp2_with fail;refine mX HF HS3 fun w4 HS4=>?_;refine mS E j [46,46,46] (fun hx5 hp5=>?_) fun hn5=>?_
  ·obtain ⟨c0,c1,c4,cz,cn,cn2⟩:=HS4.out.ncell t1;have c3:=HS4.out.r.c3;have z3:=HS4.out.r.z 3;have HS6:=Hd (HS4.out.setW [_] (j:Int));obtain ⟨hw,-,-,i7,HS7,hi7⟩:=mI HS6 HS6 hN;go_wp2_with fail;refine mO HI.out.typ HS7 HP 3 fun g8 k8 s8 p8 i8 w8 HS8 hi8=>?_;clear c0 c1 c4 cz cn cn2 c3 z3 HS4 hw HS6 hx5 hp5 HS7;go_wp2_with fail;refine mC HF [_,_] HS8 (gs2 HS8) (fun w9 HS9=>?_);go_wp2_with fail;exact rQ HQ HS9.out.tl.tl
  go_wp2_with fail;refine mO HI.out.typ HS4 HP 3 fun g10 k10 s10 p10 i10 w10 HS10 hi10=>?_;clear hn5 HS4;go_wp2_with fail;refine mC HF [_,_] HS10 (gs2 HS10) (fun w11 HS11=>?_);go_wp2_with fail;exact rQ HQ HS11.out.tl.tl
 | false =>
  go_wp2_with fail;refine mA HF HS3 HP 3 fun g12 i12 w12 HS12 hi12=>?_;go_wp2_with fail;refine mX HF HS12 fun w13 HS13=>?_;refine mS E i12 [46,46,46] (fun hx14 hp14=>?_) fun hn14=>?_
  ·obtain ⟨c0,c1,c4,cz,cn,cn2⟩:=HS13.out.ncell t2;have c3:=HS13.out.r.c3;have z3:=HS13.out.r.z 3;have HS15:=Hd (HS13.out.setW [_,_] (i12:Int));obtain ⟨hw,-,-,i16,HS16,hi16⟩:=mI HS15 HS15 hN;go_wp2_with fail;refine mO HI.out.typ HS16 HP 4 fun g17 k17 s17 p17 i17 w17 HS17 hi17=>?_;clear c0 c1 c4 cz cn cn2 c3 z3 HS13 hw HS15 hx14 hp14 HS16;go_wp2_with fail;refine mC HF [_,_,_] HS17 (gs2 HS17) (fun w18 HS18=>?_);go_wp2_with fail;exact rQ HQ HS18.out.tl.tl.tl
  go_wp2_with fail;refine mO HI.out.typ HS13 HP 4 fun g19 k19 s19 p19 i19 w19 HS19 hi19=>?_;clear hn14 HS13;go_wp2_with fail;refine mC HF [_,_,_] HS19 (gs2 HS19) (fun w20 HS20=>?_);go_wp2_with fail;exact rQ HQ HS20.out.tl.tl.tl
theorem zLd (HF:Hid (SynF E)) {W:World} {j:Nat} {I:List Item} (HS:Hid (St E W j I)):Calls Tryz.prog 122 #[ptrV E.gr] W (PNd E I j 1):=by
 refine pnI HF HS fun Q HP HQ hN hj=>?_;go_enter Tryz.func122,Tryz.ntmps122;have c3:=HS.out.r.c3;have z3:=HS.out.r.z 3;go_wp2_with fail;refine mQ (zBt HF.out HS.out.r (j:Int) (by omega)) HS fun w1 HS1=>?_;clear c3 z3 HS;cases hx2:quotedB E (j:Int) with
 | true =>
  go_wp2_with fail;refine mL (zFj HF.out HS1.out) HP 0 fun g3 i3 w3 HS3 hi3=>?_;clear hx2 HS1;go_wp2_with fail;exact rQ HQ HS3.out
 | false =>
  go_wp2_with fail;refine mZ HS1 0 fun g4 w4 HS4=>?_;go_wp2_with fail;exact rQ HQ HS4.out
theorem zYe {m:Nat} (HF:Hid (SynF E)) (HI:Hid (IH E m)):Ok E 92 8 (-5) (m+1):=by
 refine okI HF fun W j I Q HP HQ HS hN hj hm=>?_;go_enter Tryz.func92,Tryz.ntmps92;go_wp2_with fail;refine mP HS 22 fun g1 w1 HS1=>?_;go_wp2_with fail;refine mX HF HS1 fun w2 HS2=>?_;refine mS E j [42] (fun hx3 hp3=>?_) fun hn3=>?_
 ·go_wp2_with fail;refine mP HS2 35 fun g4 w4 HS4=>?_;obtain ⟨hw,c3,z3,i5,HS5,hi5⟩:=mI HS4 HS4 hN;have d3:=HS5.out.r.c3;have y3:=HS5.out.r.z 3;go_wp2_with fail;refine mQ (xR HF.out HS5.out.r (i5:Int) (by omega)) HS5 fun w6 HS6=>?_;clear c3 z3 hw HS4 hx3 hp3 HS5;cases hx7:namedB E (i5:Int) with
  | true =>
   go_wp2_with fail;refine mO HI.out.typeName HS6 HP 4 fun g8 k8 s8 p8 i8 w8 HS8 hi8=>?_;clear hx7 HS6;go_wp2_with fail;refine mC HF [_] HS8 (gs1 HS8) (fun w9 HS9=>?_);go_wp2_with fail;refine mN (zLd HF HS9) HP 4 fun g10 k10 s10 p10 i10 w10 HS10 hi10=>?_;go_wp2_with fail;refine mC HF [_,_,_] HS10 (.cons (HS10.out.ok _ t2) (.cons (HS10.out.ok _ t0) (.nil _ _ _))) (fun w11 HS11=>?_);go_wp2_with fail;exact rQ HQ HS11.out.tl.tl.tl
  | false =>
   go_wp2_with fail;exact mF HS6 HP 4
 go_wp2_with fail;refine mT (zLe HF.out HS2.out.r) HS2 fun bb w13 HS13=>?_;cases bb with
 | true =>
  go_wp2_with fail;refine mO HI.out.typeName HS13 HP 2 fun g14 k14 s14 p14 i14 w14 HS14 hi14=>?_;clear hn3 HS13;go_wp2_with fail;refine mN (zLd HF HS14) HP 3 fun g15 k15 s15 p15 i15 w15 HS15 hi15=>?_;go_wp2_with fail;refine mC HF [_,_] HS15 (gs2 HS15) (fun w16 HS16=>?_);go_wp2_with fail;exact rQ HQ HS16.out.tl.tl
 | false =>
  obtain ⟨c0,c1,c4,cz,cn,cn2⟩:=HS13.out.ncell t0;have HS17:=Hd (HS13.out.setK [] 21);go_wp2_with fail;refine mO HI.out.names HS17 HP 2 fun g18 k18 s18 p18 i18 w18 HS18 hi18=>?_;clear c0 c1 c4 cz cn cn2 HS13 hn3 HS17;go_wp2_with fail;refine mO HI.out.typ HS18 HP 3 fun g19 k19 s19 p19 i19 w19 HS19 hi19=>?_;go_wp2_with fail;refine mN (zLd HF HS19) HP 4 fun g20 k20 s20 p20 i20 w20 HS20 hi20=>?_;go_wp2_with fail;refine mC HF [_,_,_] HS20 (gs3 HS20) (fun w21 HS21=>?_);go_wp2_with fail;exact rQ HQ HS21.out.tl.tl.tl
theorem yBe {m:Nat} (HF:Hid (SynF E)) (HI:Hid (IH E m)):Ok E 93 8 (-6) (m+1):=by
 refine okI HF fun W j I Q HP HQ HS hN hj hm=>?_;go_enter Tryz.func93,Tryz.ntmps93;have c3:=HS.out.r.c3;have z3:=HS.out.r.z 3;go_wp2_with fail;refine mQ (xR HF.out HS.out.r ((j:Int)) (by omega)) HS fun w1 HS1=>?_;clear c3 z3 HS;cases hx2:namedB E (j:Int) with
 | true =>
  have hw1:IntKind.i64.wrap ((j:Int)+1)=(j:Int)+1:=wi64 _ (by omega);have c3:=HS1.out.r.c3;have z3:=HS1.out.r.z 3;go_wp2_with fail;refine mQ (xB HF.out HS1.out.r ((j:Int)+1) (by omega)) HS1 fun w3 HS3=>?_;clear hw1 c3 z3 HS1;cases hx4:((wordZ E ((j:Int)+1)).toList == [40]) with
  | true =>
   go_wp2_with fail;refine mP HS3 24 fun g5 w5 HS5=>?_;go_wp2_with fail;refine mA HF HS5 HP 2 fun g6 i6 w6 HS6 hi6=>?_;clear hx2 hx4 HS5;go_wp2_with fail;refine mO HI.out.signature HS6 HP 3 fun g7 k7 s7 p7 i7 w7 HS7 hi7=>?_;go_wp2_with fail;refine mC HF [_,_] HS7 (gs2 HS7) (fun w8 HS8=>?_);go_wp2_with fail;exact rQ HQ HS8.out.tl.tl
  | false =>
   go_wp2_with fail;refine mO HI.out.union HS3 HP 0 fun g9 k9 s9 p9 i9 w9 HS9 hi9=>?_;clear hx2 hx4 HS3;go_wp2_with fail;exact rQ HQ HS9.out
 | false =>
  go_wp2_with fail;refine mO HI.out.union HS1 HP 0 fun g10 k10 s10 p10 i10 w10 HS10 hi10=>?_;clear hx2 HS1;go_wp2_with fail;exact rQ HQ HS10.out
theorem yCv {m:Nat} (HF:Hid (SynF E)) (HI:Hid (IH E m)):Ok E 39 6 (-7) (m+1):=by
 refine okI HF fun W j I Q HP HQ HS hN hj hm=>?_;have hmf:=mkf;go_enter Tryz.func39,Tryz.ntmps39;go_wp2_with fail;refine mY HI.out.anyType zRg HS HP 0 fun g1 k1 s1 p1 i1 w1 HS1 hi1=>?_;go_wp2_with fail;exact rQ HQ HS1.out
theorem zYf {m:Nat} (HF:Hid (SynF E)) (HI:Hid (IH E m)):Ok E 41 30 (1) (m+1):=by
 refine okI HF fun W j I Q HP HQ HS hN hj hm=>?_;have hmf:=mkf;go_enter Tryz.func41,Tryz.ntmps41;go_wp2_with fail;refine mY HI.out.anyStmts zOe HS HP 0 fun g1 k1 s1 p1 i1 w1 HS1 hi1=>?_;go_wp2_with fail;exact rQ HQ HS1.out
theorem zYg {m:Nat} (HF:Hid (SynF E)) (HI:Hid (IH E m)):Ok E 107 2 (-14) (m+1):=by
 refine okI HF fun W j I Q HP HQ HS hN hj hm=>?_;go_enter Tryz.func107,Tryz.ntmps107;go_wp2_with fail;refine mP HS 58 fun g1 w1 HS1=>?_;go_wp2_with fail;refine mW HF HS1 [123] HP 2 fun i2 w2 HS2 hi2=>?_;go_wp2_with fail;refine mO HI.out.stmts HS2 HP 2 fun g3 k3 s3 p3 i3 w3 HS3 hi3=>?_;go_wp2_with fail;refine mW HF HS3 [125] HP 3 fun i4 w4 HS4 hi4=>?_;go_wp2_with fail;refine mC HF [_] HS4 (gs1 HS4) (fun w5 HS5=>?_);go_wp2_with fail;exact rQ HQ HS5.out.tl
theorem zNo {m:Nat} (HF:Hid (SynF E)) (HI:Hid (IH E m)):OkN E 154 2 (-8) (m+1):=by
 refine okJ HF fun W j I Q HP HQ HS hN hj hjN hm=>?_;go_enter Tryz.func154,Tryz.ntmps154;go_wp2_with fail;refine mP HS 68 fun g1 w1 HS1=>?_;go_wp2_with fail;refine mO1 HI.out.group HS1 HP 2 fun g2 k2 s2 p2 i2 w2 HS2 hi2=>?_;go_wp2_with fail;refine mC HF [_] HS2 (gs1 HS2) (fun w3 HS3=>?_);go_wp2_with fail;exact rQ HQ HS3.out.tl
end
section
variable {E:SynE}
@[irreducible] def asRel (E:SynE) (I:List Item) (j:Nat) (kv:Value) (W:World):Prop :=
 ∃ gs ps,∃ i:Nat,(∃ a n c,kv=.slice a n c)∧St E W i (.row kv gs ps::I)∧j≤i∧(ps.length:Int)≤8*((i:Int)-j)∧gs.length+j≤i
theorem zNr {m:Nat} (HF:Hid (SynF E)) (HI:Hid (IH E m)):Ok E 59 29 (1) (m+1):=by
 refine okI HF fun W j I Q HP HQ HS hN hj hm=>?_;go_enter Tryz.func59,Tryz.ntmps59;have HR:Hid (asRel E I j (.slice none 0 0) W):=Hd (by
  unfold asRel;exact ⟨[],[],j,⟨_,_,_,rfl⟩,HS.out.nil,nR _,by simp,by simp⟩)
 go_wp2_with fail;go_loopw [3] (fun kv wr=>asRel E I j kv wr) (fun _ wr=>E.N-rdAt E wr)
 case atStart=>exact HR.out
 case round =>
  unfold asRel at hrel;obtain ⟨gs,ps,i,⟨va,vn,vc,rfl⟩,hst,hji,hps,hgs⟩:=hrel;have HS:=Hd hst;have hiN:=hst.r.le;have HM0:Hid (E.N-rdAt E wr=E.N-i):=Hd (by rw [HS.out.rdAt]);clear hst HR;go_wp2_with fail;refine mX HF HS fun w1 HS1=>?_;by_cases hx2:(wordZ E i).toList=[125]∨(wordZ E i).toList=[99,97,115,101]∨(wordZ E i).toList=[100,101,102,97,117,108,116]
  ·rcases hx2 with hx2 | hx2 | hx2;all_goals
    have hp2:=jD hx2 (by decide);go_wp2_with fail;refine mD HF HS1 13 fun g3 w3 HS3=>?_;go_wp2_with fail;exact rQ HQ HS3.out
  simp only [not_or] at hx2;obtain ⟨hn4,hn5,hn6⟩:=hx2;replace hn4:=nq hn4;replace hn5:=nq hn5;replace hn6:=nq hn6;go_wp2_with fail;refine mQ (gW HF.out HS1.out.r) HS1 fun w7 HS7=>?_;cases hx8:endedB E i with
  | true =>
   go_wp2_with fail;refine mD HF HS7 13 fun g9 w9 HS9=>?_;go_wp2_with fail;exact rQ HQ HS9.out
  | false =>
   refine mS E i [59] (fun hx10 hp10=>?_) fun hn10=>?_
   ·go_wp2_with fail;refine mZ HS7 49 fun g11 w11 HS11=>?_;obtain ⟨v',w11a,hr,hs4,a4,n4,c4,rfl⟩:=St.append1 [_] HS11.out (.head _) (by omega);have HRUN:=Hd hr;have HS11a:=Hd hs4.tl;clear hr hs4;go_upto_region 10 with (at_builtin;refine zE rfl _ _ _ _ HRUN.out rfl rfl rfl rfl ?_);obtain ⟨hw,c3,z3,i12,HS12,hi12⟩:=mI HS11a HS11a hN;have HR:Hid (asRel E I j (.slice a4 n4 c4) (w11a.setCell ⟨E.gr,3,none⟩ (.int .i64 ((i:Int)+1)))):=Hd (by
     unfold asRel;exact ⟨_,_,_,⟨_,_,_,rfl⟩,HS12.out,by omega,by (try simp only [lA,lC,lN]);omega,by simp;omega⟩)
    have HM:Hid (E.N-rdAt E (w11a.setCell ⟨E.gr,3,none⟩ (.int .i64 ((i:Int)+1)))<E.N-rdAt E wr):=Hd (by rw [HM0.out,HS12.out.rdAt];omega);go_wp2_with fail;exact ⟨HR.out,HM.out⟩
   go_wp2_with fail;refine mO HI.out.stmt HS7 HP 1 fun g13 k13 s13 p13 i13 w13 HS13 hi13=>?_;clear hn4 hn5 hn6 hx8 hn10 HS7;obtain ⟨v',w13a,hr,hs4,a4,n4,c4,rfl⟩:=St.append1 [_] HS13.out (.head _) (by omega);have HRUN:=Hd hr;have HS13a:=Hd hs4.tl;clear hr hs4;go_upto_region 4 with (at_builtin;refine zE rfl _ _ _ _ HRUN.out rfl rfl rfl rfl ?_);go_wp2_with fail;refine mX HF HS13a fun w14 HS14=>?_;refine mS E i13 [125] (fun hx15 hp15=>?_) fun hn15=>?_
   ·have HR:Hid (asRel E I j (.slice a4 n4 c4) w14):=Hd (by
     unfold asRel;exact ⟨_,_,_,⟨_,_,_,rfl⟩,HS14.out,by omega,by (try simp only [lA,lC,lN]);omega,by simp;omega⟩)
    have HM:Hid (E.N-rdAt E w14<E.N-rdAt E wr):=Hd (by rw [HM0.out,HS14.out.rdAt];omega);go_wp2_with fail;exact ⟨HR.out,HM.out⟩
   go_wp2_with fail;refine mQ (gW HF.out HS14.out.r) HS14 fun w16 HS16=>?_;cases hx17:endedB E i13 with
   | true =>
    have HR:Hid (asRel E I j (.slice a4 n4 c4) w16):=Hd (by
     unfold asRel;exact ⟨_,_,_,⟨_,_,_,rfl⟩,HS16.out,by omega,by (try simp only [lA,lC,lN]);omega,by simp;omega⟩)
    have HM:Hid (E.N-rdAt E w16<E.N-rdAt E wr):=Hd (by rw [HM0.out,HS16.out.rdAt];omega);go_wp2_with fail;exact ⟨HR.out,HM.out⟩
   | false =>
    go_wp2_with fail;refine mW HF HS16 [59] HP 1 fun i18 w18 HS18 hi18=>?_;clear hn15 hx17 HS16;have HR:Hid (asRel E I j (.slice a4 n4 c4) w18):=Hd (by
     unfold asRel;exact ⟨_,_,_,⟨_,_,_,rfl⟩,HS18.out,by omega,by (try simp only [lA,lC,lN]);omega,by simp;omega⟩)
    have HM:Hid (E.N-rdAt E w18<E.N-rdAt E wr):=Hd (by rw [HM0.out,HS18.out.rdAt];omega);go_wp2_with fail;exact ⟨HR.out,HM.out⟩
def boolN:Value→Nat
 | .bool true=>1
 | _=>0
@[irreducible] def unRel (E:SynE) (I:List Item) (j:Nat) (kv mv:Value) (W:World):Prop :=
 ∃ gs ps,∃ i:Nat,∃ b:Bool,mv=.bool b∧(∃ a n c,kv=.slice a n c)∧St E W i (.row kv gs ps::I)∧j≤i∧(ps.length:Int)≤8*((i:Int)-j)-(if b then 0 else 7)∧gs.length+j≤i
theorem zYh {m:Nat} (HF:Hid (SynF E)) (HI:Hid (IH E m)):Ok E 125 7 (-6) (m+1):=by
 refine okI HF fun W j I Q HP HQ HS hN hj hm=>?_;go_enter Tryz.func125,Tryz.ntmps125;have HR:Hid (unRel E I j (.slice none 0 0) (.bool true) W):=Hd (by
  unfold unRel;exact ⟨[],[],j,true,rfl,⟨_,_,_,rfl⟩,HS.out.nil,nR _,by simp,by simp⟩)
 go_wp2_with fail;go_loopw [3,4] (fun kv mv wr=>unRel E I j kv mv wr) (fun _ mv wr=>2*(E.N-rdAt E wr)+boolN mv)
 case atStart=>exact HR.out
 case round =>
  unfold unRel at hrel;obtain ⟨gs,ps,i,b,rfl,⟨va,vn,vc,rfl⟩,hst,hji,hps,hgs⟩:=hrel;have HS:=Hd hst;have hiN:=hst.r.le;clear hst HR;cases b with
  | false =>
   simp only [Bool.false_eq_true,if_false] at hps;go_wp2_with fail;refine mD HF HS 18 fun g1 w1 HS1=>?_;go_wp2_with fail;exact rQ HQ HS1.out
  | true =>
   simp only [if_true] at hps;have HM0:Hid (2*(E.N-rdAt E wr)+boolN (.bool true)=2*(E.N-i)+1):=Hd (by rw [HS.out.rdAt];rfl);go_wp2_with fail;refine mP HS 19 fun g2 w2 HS2=>?_;go_wp2_with fail;refine mM HF HS2 [126] (fun i3 w3 HS3 hi3=>?_) fun w3 HS3=>?_
   ·go_wp2_with fail;refine mO HI.out.typ HS3 HP 3 fun g4 k4 s4 p4 i4 w4 HS4 hi4=>?_;go_wp2_with fail;refine mC HF [_] HS4 (gs1 HS4) (fun w5 HS5=>?_);have HS5b:=Hd (HS5.out.tl);obtain ⟨v',w5a,hr,hs4,a4,n4,c4,rfl⟩:=St.append1 [_] HS5b.out (.head _) (by omega);have HRUN:=Hd hr;have HS5a:=Hd hs4.tl;clear hr hs4;clear HS5 HS5b;go_upto_region 4 with (at_builtin;refine zE rfl _ _ _ _ HRUN.out rfl rfl rfl rfl ?_);go_wp2_with fail;refine mM HF HS5a [124] (fun i6 w6 HS6 hi6=>?_) fun w6 HS6=>?_
    ·have HR:Hid (unRel E I j (.slice a4 n4 c4) (.bool true) w6):=Hd (by
      unfold unRel;exact ⟨_,_,_,true,rfl,⟨_,_,_,rfl⟩,HS6.out,by omega,by (try simp only [lA,lC,lN]);simp;omega,by simp;omega⟩)
     have HM:Hid (2*(E.N-rdAt E w6)+boolN (.bool true)<2*(E.N-rdAt E wr)+boolN (.bool true)):=Hd (by rw [HM0.out,HS6.out.rdAt];simp [boolN];omega);go_wp2_with fail;exact ⟨HR.out,HM.out⟩
    have HR:Hid (unRel E I j (.slice a4 n4 c4) (.bool false) w6):=Hd (by
     unfold unRel;exact ⟨_,_,_,false,rfl,⟨_,_,_,rfl⟩,HS6.out,by omega,by (try simp only [lA,lC,lN]);simp;omega,by simp;omega⟩)
    have HM:Hid (2*(E.N-rdAt E w6)+boolN (.bool false)<2*(E.N-rdAt E wr)+boolN (.bool true)):=Hd (by rw [HM0.out,HS6.out.rdAt];simp [boolN];omega);go_wp2_with fail;exact ⟨HR.out,HM.out⟩
   go_wp2_with fail;refine mO HI.out.typ HS3 HP 3 fun g7 k7 s7 p7 i7 w7 HS7 hi7=>?_;obtain ⟨v',w7a,hr,hs4,a4,n4,c4,rfl⟩:=St.append1 [_,_,_] HS7.out (.head _) (by omega);have HRUN:=Hd hr;have HS7a:=Hd hs4.tl.tl.tl;clear hr hs4;go_upto_region 4 with (at_builtin;refine zE rfl _ _ _ _ HRUN.out rfl rfl rfl rfl ?_);go_wp2_with fail;refine mM HF HS7a [124] (fun i8 w8 HS8 hi8=>?_) fun w8 HS8=>?_
   ·have HR:Hid (unRel E I j (.slice a4 n4 c4) (.bool true) w8):=Hd (by
     unfold unRel;exact ⟨_,_,_,true,rfl,⟨_,_,_,rfl⟩,HS8.out,by omega,by (try simp only [lA,lC,lN]);simp;omega,by simp;omega⟩)
    have HM:Hid (2*(E.N-rdAt E w8)+boolN (.bool true)<2*(E.N-rdAt E wr)+boolN (.bool true)):=Hd (by rw [HM0.out,HS8.out.rdAt];simp [boolN];omega);go_wp2_with fail;exact ⟨HR.out,HM.out⟩
   have HR:Hid (unRel E I j (.slice a4 n4 c4) (.bool false) w8):=Hd (by
    unfold unRel;exact ⟨_,_,_,false,rfl,⟨_,_,_,rfl⟩,HS8.out,by omega,by (try simp only [lA,lC,lN]);simp;omega,by simp;omega⟩)
   have HM:Hid (2*(E.N-rdAt E w8)+boolN (.bool false)<2*(E.N-rdAt E wr)+boolN (.bool true)):=Hd (by rw [HM0.out,HS8.out.rdAt];simp [boolN];omega);go_wp2_with fail;exact ⟨HR.out,HM.out⟩
@[irreducible] def biRel (E:SynE) (I:List Item) (j:Nat) (xv:Value) (W:World):Prop :=
 ∃ g k gs ps,∃ i:Nat,xv=ptrV g∧St E W i (.done g k gs ps::I)∧j≤i∧(ps.length:Int)≤8*((i:Int)-j)-7
theorem zYi (x:List UInt8):lvZ x≤5:=by
 unfold lvZ
 repeat' split
 all_goals omega
theorem zUu {E:SynE} {j:Nat} (h:lvZ (wordZ E j).toList≠0):j+1≤E.N:=zAi (by intro e;rw [e] at h;exact h rfl)
theorem zUv {m:Nat} (HF:Hid (SynF E)) (HI:Hid (IH E m)):∀ least:Nat,1≤least→least≤6→∀ W j I,St E W j I→64*(E.N-j)+10<m+1→Calls Tryz.prog 58 #[ptrV E.gr,.int .i64 (least:Int)] W (PNd E I j (-7)):=by
 intro least hl1 hl6 W j I h hm;have HS:=Hd h;clear h;refine pnI HF HS fun Q HP HQ hN hj=>?_;go_enter Tryz.func58,Tryz.ntmps58;have c3:=HS.out.r.c3;have z3:=HS.out.r.z 3;go_wp2_with fail;refine mO HI.out.unary HS HP 0 fun g1 k1 s1 p1 i1 w1 HS1 hi1=>?_;clear c3 z3 HS;have HR:Hid (biRel E I j (ptrV g1) w1):=Hd (by
  unfold biRel;exact ⟨_,_,_,_,_,rfl,HS1.out,by omega,by omega⟩)
 go_wp2_with fail;go_loopw [6] (fun xv wr=>biRel E I j xv wr) (fun _ wr=>E.N-rdAt E wr)
 case atStart=>exact HR.out
 case round =>
  unfold biRel at hrel;obtain ⟨g,kx,gs,ps,i,rfl,hst,hji,hps⟩:=hrel;have HS:=Hd hst;have hiN:=hst.r.le;have HM0:Hid (E.N-rdAt E wr=E.N-i):=Hd (by rw [HS.out.rdAt]);clear hst HR HS1;go_wp2_with fail;refine mX HF HS fun w2 HS2=>?_;go_wp2_with fail;refine (zAz _ _).mono ?_;rintro e w3 ⟨rfl,rfl⟩;have hv:=zYi (wordZ E i).toList;have HVP:=Hd (fun h=>zUu (E:=E) (j:=i) h);generalize lvZ (wordZ E i).toList=lv at *;by_cases hlt:lv<least
  ·have hlt2:(lv:Int)<(least:Int):=by omega
   go_wp2_with fail;exact rQ HQ HS2.out
  have hlt2:¬ (lv:Int)<(least:Int):=by omega
  have hp:=HVP.out (by omega);have hwl:IntKind.i64.wrap ((lv:Int)+1)=(lv:Int)+1:=wi64 _ (by omega);obtain ⟨hw,c3,z3,i4,HS4,hi4⟩:=mI HS2 HS2 hN;go_wp2_with fail;refine mBi HI (lv+1) HS4 HP 1 fun g5 k5 s5 p5 i5 w5 HS5 hi5=>?_;clear hwl hlt2 HVP c3 z3 hw HS2 HS4;have c3:=HS5.out.r.c3;have z3:=HS5.out.r.z 3;have HX:=Hd (St.close [] (((HS5.out.lit [g,g5] _ (.cons (HS5.out.ok _ (.tail _ (.head _))) (.cons (HS5.out.ok _ (.head _)) (.nil _ _ _))) (by simp)).new (nodeC 37 i j i5 (.slice (some ⟨w5.heap.size,0,none⟩) 2 2)))) ⟨by omega,by omega⟩ ⟨by decide,by simp [leastK]⟩);have HR:Hid (biRel E I j (ptrV (w5.heap.size+1)) ((w5.alloc (.cells #[ptrV g,ptrV g5] 61)).alloc (nodeC 37 i j i5 (.slice (some ⟨w5.heap.size,0,none⟩) 2 2)))):=Hd (by
   unfold biRel;have h:=HX.out.pop2.pop2;refine ⟨_,_,_,_,_,by simp,h,by omega,by simp;omega⟩)
  have HM:Hid (E.N-rdAt E ((w5.alloc (.cells #[ptrV g,ptrV g5] 61)).alloc (nodeC 37 i j i5 (.slice (some ⟨w5.heap.size,0,none⟩) 2 2)))<E.N-rdAt E wr):=Hd (by rw [HM0.out];rw [show rdAt E ((w5.alloc (.cells #[ptrV g,ptrV g5] 61)).alloc (nodeC 37 i j i5 (.slice (some ⟨w5.heap.size,0,none⟩) 2 2)))=i5 from HX.out.rdAt];omega);clear HX;go_wp2_with fail;exact ⟨HR.out,HM.out⟩
end
end Go.Proofs.YtbjkdmbcpkopjaaGreatDoor
