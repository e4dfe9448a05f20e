/- Layer 12: short forms for the walks of the parser. -/
import Derived.Test.YtfpjdpdmgceciaaGreatDoorPsITg
import Derived.Test.YtfpjdpdmgceciaaGreatDoorUntilTg
import Derived.Deep.RegionHeld3
namespace Go.Proofs.YtfpjdpdmgceciaaGreatDoor
set_option linter.all false
attribute [local irreducible] Calls
open Go.RowKit
abbrev HPn(E:SynE)(I:List Item)(Q:Ending->World->Prop):Prop:=Hid (∀W i,St E W i I->Q (panE i) W)
abbrev HRt(E:SynE)(I:List Item)(j:Nat)(a:Int)(Q:Ending->World->Prop):Prop:=Hid (∀W g k gs ps i,St E W i (.done g k gs ps::I)->j<=i->(ps.length:Int)<=8*((i:Int)-j)+a->Q (.returned (ptrV g)) W)
abbrev HRk(E:SynE)(I:List Item)(j:Nat)(a:Int)(κ:List Prt->Prop)(Q:Ending->World->Prop):Prop:=Hid (∀W g k gs ps i,St E W i (.done g k gs ps::I)->j<=i->(ps.length:Int)<=8*((i:Int)-j)+a->κ ps->Q (.returned (ptrV g)) W)
abbrev HRm(E:SynE)(I:List Item)(n:Nat)(v:Value)(j:Nat)(b:Int)(κ:List Prt->Prop)(Q:Ending->World->Prop):Prop:=Hid (∀W k gs ps i,St E W i (.done n k gs ps::I)->j<=i->(ps.length:Int)<=8*((i:Int)-j)+b->κ ps->Q (.returned v) W)
abbrev HRn(E:SynE)(I:List Item)(n:Nat)(v:Value)(j:Nat)(b:Int)(Q:Ending->World->Prop):Prop:=Hid (∀W k gs ps i,St E W i (.done n k gs ps::I)->j<=i->(ps.length:Int)<=8*((i:Int)-j)+b->Q (.returned v) W)
theorem SynF.N{E:SynE}(F:Hid (SynF E)):E.N<=1000000:=by have:=F.out.n;unfold SynE.N;omega
theorem mkf:∀(fn:Fn)(first cap:Array Value)(w:World),(Instr.makeFunc fn first cap).run Tryz.prog w=.ok (.func fn first cap) w:=λ_ _ _ _=>rfl
section
variable {α:Type} {a b c d e f g h i j:α} {l:List α}
theorem t0:a∈a::l:=.head _
theorem t1:b∈a::b::l:=.tail _ t0
theorem t2:c∈a::b::c::l:=.tail _ t1
theorem t3:d∈a::b::c::d::l:=.tail _ t2
theorem t4:e∈a::b::c::d::e::l:=.tail _ t3
theorem t5:f∈a::b::c::d::e::f::l:=.tail _ t4
theorem t6:g∈a::b::c::d::e::f::g::l:=.tail _ t5
theorem t7:h∈a::b::c::d::e::f::g::h::l:=.tail _ t6
theorem t8:i∈a::b::c::d::e::f::g::h::i::l:=.tail _ t7
theorem t9:j∈a::b::c::d::e::f::g::h::i::j::l:=.tail _ t8
end
section
variable {E:SynE} {W:World} {j:Nat} {I I0:List Item} {Q Q':Ending->World->Prop} {f:FuncId} {args:Array Value} {a:Int} {r m:Nat} {κ:List Prt->Prop}
theorem okI(HF:Hid (SynF E))(k:∀W j I Q,HPn E I Q->HRt E I j a Q->Hid (St E W j I)->E.N<=1000000->j<=E.N->64*(E.N-j)+r<m+1->Calls Tryz.prog f #[ptrV E.gr] W Q):Ok E f r a (m+1):=λW j I h hm =>
 k W j I _ (Hd λW i h=>PNd.pan h) (Hd λW g k gs ps i h h1 h2=>PNd.ret h h1 h2) (Hd h) (SynF.N HF) h.r.le hm
theorem okJ(HF:Hid (SynF E))(k:∀W j I Q,HPn E I Q->HRt E I j a Q->Hid (St E W j I)->E.N<=1000000->j<=E.N->j+1<=E.N->64*(E.N-j)+r<m+1->Calls Tryz.prog f #[ptrV E.gr] W Q):OkN E f r a (m+1):=λW j I h hj hm =>
 k W j I _ (Hd λW i h=>PNd.pan h) (Hd λW g k gs ps i h h1 h2=>PNd.ret h h1 h2) (Hd h) (SynF.N HF) h.r.le hj hm
theorem pnI(HF:Hid (SynF E))(HS:Hid (St E W j I))(k:∀Q,HPn E I Q->HRt E I j a Q->E.N<=1000000->j<=E.N->Calls Tryz.prog f args W Q):Calls Tryz.prog f args W (PNd E I j a) :=
 k _ (Hd λW i h=>PNd.pan h) (Hd λW g k gs ps i h h1 h2=>PNd.ret h h1 h2) (SynF.N HF) HS.out.r.le
theorem nnI{n i:Nat}{v:Value}(HF:Hid (SynF E)){J:List Item}(HS:Hid (St E W j J))(k:∀Q,HPn E I Q->HRn E I n v i a Q->E.N<=1000000->j<=E.N->Calls Tryz.prog f args W Q):Calls Tryz.prog f args W (PNn E I n v i a) :=
 k _ (Hd λW i h=>by unfold PNn PNm;exact Or.inr ⟨i,rfl,h⟩) (Hd λW k gs ps i h h1 h2=>by unfold PNn PNm;exact Or.inl ⟨k,gs,ps,i,rfl,h,h1,h2,trivial⟩) (SynF.N HF) HS.out.r.le
theorem okK(HF:Hid (SynF E))(k:∀W j I Q,HPn E I Q->HRk E I j a κ Q->Hid (St E W j I)->E.N<=1000000->j<=E.N->64*(E.N-j)+r<m+1->Calls Tryz.prog f #[ptrV E.gr] W Q):Okk E f r a κ (m+1):=λW j I h hm =>
 k W j I _ (Hd λW i h=>PNk.pan h) (Hd λW g k gs ps i h h1 h2 h3=>PNk.ret h h1 h2 h3) (Hd h) (SynF.N HF) h.r.le hm
theorem pnK(HF:Hid (SynF E))(HS:Hid (St E W j I))(k:∀Q,HPn E I Q->HRk E I j a κ Q->E.N<=1000000->j<=E.N->Calls Tryz.prog f args W Q):Calls Tryz.prog f args W (PNk E I j a κ) :=
 k _ (Hd λW i h=>PNk.pan h) (Hd λW g k gs ps i h h1 h2 h3=>PNk.ret h h1 h2 h3) (SynF.N HF) HS.out.r.le
theorem nnK{n i:Nat}{v:Value}(HF:Hid (SynF E)){J:List Item}(HS:Hid (St E W j J))(k:∀Q,HPn E I Q->HRm E I n v i a κ Q->E.N<=1000000->j<=E.N->Calls Tryz.prog f args W Q):Calls Tryz.prog f args W (PNm E I n v i a κ) :=
 k _ (Hd λW i h=>by unfold PNm;exact Or.inr ⟨i,rfl,h⟩) (Hd λW k gs ps i h h1 h2 h3=>by unfold PNm;exact Or.inl ⟨k,gs,ps,i,rfl,h,h1,h2,h3⟩) (SynF.N HF) HS.out.r.le
theorem mV(h:Calls Tryz.prog f args W (PNk E I j a κ))(hp:∀i W',St E W' i I->Q' (panE i) W')(k:∀g k s p i W',Hid (St E W' i (.done g k s p::I))->(j<=i/\i<=E.N/\1<=p.length/\(p.length:Int)<=8*((i:Int)-j)+a)->Q' (.returned (ptrV g)) W'):Calls Tryz.prog f args W Q' :=
 h.mono λe W' h'=>by
  rcases h'.go with⟨i,rfl,hs⟩|⟨g,k',s,p,i,rfl,hs,hi,_⟩
  .exact hp _ _ hs
  .exact k _ _ _ _ _ _ hs hi
theorem mVk(h:Calls Tryz.prog f args W (PNk E I j a κ))(hp:∀i W',St E W' i I->Q' (panE i) W')(k:∀g k s p i W',Hid (St E W' i (.done g k s p::I))->(j<=i/\i<=E.N/\1<=p.length/\(p.length:Int)<=8*((i:Int)-j)+a)->κ p->Q' (.returned (ptrV g)) W'):Calls Tryz.prog f args W Q' :=
 h.mono λe W' h'=>by
  rcases h'.go with⟨i,rfl,hs⟩|⟨g,k',s,p,i,rfl,hs,hi,hk⟩
  .exact hp _ _ hs
  .exact k _ _ _ _ _ _ hs hi hk
theorem mN(h:Calls Tryz.prog f args W (PNk E I j a κ))(HP:HPn E I0 Q)(n:Nat)(k:∀g k s p i W',Hid (St E W' i (.done g k s p::I))->(j<=i/\i<=E.N/\1<=p.length/\(p.length:Int)<=8*((i:Int)-j)+a)->Q' (.returned (ptrV g)) W')(hI:I.drop n=I0:=by rfl)(hq:∀i W',Q (panE i) W'->Q' (panE i) W':=by exactλ_ _ h=>⟨rfl,h⟩):Calls Tryz.prog f args W Q' :=
 mV h (λi W' hs=>hq _ _ (HP.out _ _ (hI▸hs.sub (List.drop_sublist n I)))) k
theorem mNk(h:Calls Tryz.prog f args W (PNk E I j a κ))(HP:HPn E I0 Q)(n:Nat)(k:∀g k s p i W',Hid (St E W' i (.done g k s p::I))->(j<=i/\i<=E.N/\1<=p.length/\(p.length:Int)<=8*((i:Int)-j)+a)->κ p->Q' (.returned (ptrV g)) W')(hI:I.drop n=I0:=by rfl)(hq:∀i W',Q (panE i) W'->Q' (panE i) W':=by exactλ_ _ h=>⟨rfl,h⟩):Calls Tryz.prog f args W Q' :=
 mVk h (λi W' hs=>hq _ _ (HP.out _ _ (hI▸hs.sub (List.drop_sublist n I)))) k
theorem mO(h:Okk E f r a κ m)(HS:Hid (St E W j I))(HP:HPn E I0 Q)(n:Nat)(k:∀g k s p i W',Hid (St E W' i (.done g k s p::I))->(j<=i/\i<=E.N/\1<=p.length/\(p.length:Int)<=8*((i:Int)-j)+a)->Q' (.returned (ptrV g)) W')(hm:64*(E.N-j)+r<m:=by omega)(hI:I.drop n=I0:=by rfl)(hq:∀i W',Q (panE i) W'->Q' (panE i) W':=by exactλ_ _ h=>⟨rfl,h⟩):Calls Tryz.prog f #[ptrV E.gr] W Q' :=
 mN (h W j I HS.out hm) HP n k hI hq
theorem mOk(h:Okk E f r a κ m)(HS:Hid (St E W j I))(HP:HPn E I0 Q)(n:Nat)(k:∀g k s p i W',Hid (St E W' i (.done g k s p::I))->(j<=i/\i<=E.N/\1<=p.length/\(p.length:Int)<=8*((i:Int)-j)+a)->κ p->Q' (.returned (ptrV g)) W')(hm:64*(E.N-j)+r<m:=by omega)(hI:I.drop n=I0:=by rfl)(hq:∀i W',Q (panE i) W'->Q' (panE i) W':=by exactλ_ _ h=>⟨rfl,h⟩):Calls Tryz.prog f #[ptrV E.gr] W Q' :=
 mNk (h W j I HS.out hm) HP n k hI hq
theorem mO1(h:OkN E f r a m)(HS:Hid (St E W j I))(HP:HPn E I0 Q)(n:Nat)(k:∀g k s p i W',Hid (St E W' i (.done g k s p::I))->(j<=i/\i<=E.N/\1<=p.length/\(p.length:Int)<=8*((i:Int)-j)+a)->Q' (.returned (ptrV g)) W')(hj:j+1<=E.N:=by omega)(hm:64*(E.N-j)+r<m:=by omega)(hI:I.drop n=I0:=by rfl)(hq:∀i W',Q (panE i) W'->Q' (panE i) W':=by exactλ_ _ h=>⟨rfl,h⟩):Calls Tryz.prog f #[ptrV E.gr] W Q' :=
 mN (h W j I HS.out hj hm) HP n k hI hq
theorem mBik(HI:Hid (IH E m))(l:Nat)(HS:Hid (St E W j I))(HP:HPn E I0 Q)(n:Nat)(k:∀g k s p i W',Hid (St E W' i (.done g k s p::I))->(j<=i/\i<=E.N/\1<=p.length/\(p.length:Int)<=8*((i:Int)-j)-7)->X1 p->Q' (.returned (ptrV g)) W')(h1:1<=l:=by omega)(h6:l<=6:=by omega)(hm:64*(E.N-j)+10<m:=by omega)(hI:I.drop n=I0:=by rfl)(hq:∀i W',Q (panE i) W'->Q' (panE i) W':=by exactλ_ _ h=>⟨rfl,h⟩):Calls Tryz.prog 56 #[ptrV E.gr,.int .i64 (l:Int)] W Q' :=
 mNk (HI.out.binary l h1 h6 W j I HS.out hm) HP n k hI hq
theorem mY(h:Okk E f r a κ m)(hv:FnV (.func (.func f) #[ptrV E.gr] #[]) f #[ptrV E.gr])(HS:Hid (St E W j I))(HP:HPn E I0 Q)(n:Nat)(k:∀g k s p i W',Hid (St E W' i (.done g k s p::I))->(j<=i/\i<=E.N/\1<=p.length/\(p.length:Int)<=8*((i:Int)-j)+a)->Q' (.returned (ptrV g)) W')(hm:64*(E.N-j)+r<m:=by omega)(hI:I.drop n=I0:=by rfl)(hq:∀i W',Q (panE i) W'->Q' (panE i) W':=by exactλ_ _ h=>⟨rfl,h⟩):Calls Tryz.prog 54 #[ptrV E.gr,.func (.func f) #[ptrV E.gr] #[]] W Q' :=
 mN (vJ (PNd.tightQ _ _ _) hv HS.out (λW' h'=>h _ _ _ h' hm)) HP n k hI hq
theorem mYk(h:Okk E f r a κ m)(hv:FnV (.func (.func f) #[ptrV E.gr] #[]) f #[ptrV E.gr])(HS:Hid (St E W j I))(HP:HPn E I0 Q)(n:Nat)(k:∀g k s p i W',Hid (St E W' i (.done g k s p::I))->(j<=i/\i<=E.N/\1<=p.length/\(p.length:Int)<=8*((i:Int)-j)+a)->κ p->Q' (.returned (ptrV g)) W')(hm:64*(E.N-j)+r<m:=by omega)(hI:I.drop n=I0:=by rfl)(hq:∀i W',Q (panE i) W'->Q' (panE i) W':=by exactλ_ _ h=>⟨rfl,h⟩):Calls Tryz.prog 54 #[ptrV E.gr,.func (.func f) #[ptrV E.gr] #[]] W Q' :=
 mNk (vJ (PNd.tightQ _ _ _) hv HS.out (λW' h'=>h _ _ _ h' hm)) HP n k hI hq
theorem mH(h:Okk E f r a κ m)(hv:FnV (.func (.func f) #[ptrV E.gr] #[]) f #[ptrV E.gr])(HS:Hid (St E W j I))(HP:HPn E I0 Q)(n:Nat)(k:∀g k s p i W',Hid (St E W' i (.done g k s p::I))->(j<=i/\i<=E.N/\1<=p.length/\(p.length:Int)<=8*((i:Int)-j)+a)->Q' (.returned (ptrV g)) W')(hm:64*(E.N-j)+r<m:=by omega)(hI:I.drop n=I0:=by rfl)(hq:∀i W',Q (panE i) W'->Q' (panE i) W':=by exactλ_ _ h=>⟨rfl,h⟩):Calls Tryz.prog 223 #[ptrV E.gr,.func (.func f) #[ptrV E.gr] #[]] W Q' :=
 mN (zPq (PNd.tightQ _ _ _) hv HS.out (λW' h'=>h _ _ _ h' hm)) HP n k hI hq
theorem mL{kk:Nat}{ok:Bool}(h:Calls Tryz.prog f args W (PL E I j kk ok))(HP:HPn E I0 Q)(n:Nat)(k:∀g i W',Hid (St E W' i (.done g kk [] [(kk,0,textZ E kk j)]::I))->(j<i/\i<=j+1/\i<=E.N)->Q' (.returned (ptrV g)) W')(hI:I.drop n=I0:=by rfl)(hq:∀i W',Q (panE i) W'->Q' (panE i) W':=by exactλ_ _ h=>⟨rfl,h⟩):Calls Tryz.prog f args W Q' :=
 h.mono λe W' h'=>by
  rcases h'.go with⟨rfl,hs⟩|⟨g,i,rfl,hs,hi⟩
  .exact hq _ _ (HP.out _ _ (hI▸hs.sub (List.drop_sublist n I)))
  .exact k _ _ _ hs hi
theorem mA(HF:Hid (SynF E))(HS:Hid (St E W j I))(HP:HPn E I0 Q)(n:Nat)(k:∀g i W',Hid (St E W' i (.done g 26 [] [(26,0,textZ E 26 j)]::I))->(j<i/\i<=j+1/\i<=E.N)->Q' (.returned (ptrV g)) W')(hI:I.drop n=I0:=by rfl)(hq:∀i W',Q (panE i) W'->Q' (panE i) W':=by exactλ_ _ h=>⟨rfl,h⟩):Calls Tryz.prog 60 #[ptrV E.gr] W Q':=mL (zPl HF.out HS.out) HP n k hI hq
theorem mW(HF:Hid (SynF E))(HS:Hid (St E W j I))(w:List UInt8)(HP:HPn E I0 Q)(n:Nat)(k:∀i W',Hid (St E W' i I)->(j<i/\i<=j+1/\i<=E.N)->Q' (.returned (.tuple #[])) W')(hw:w≠[]:=by decide)(hI:I.drop n=I0:=by rfl)(hq:∀i W',Q (panE i) W'->Q' (panE i) W':=by exactλ_ _ h=>⟨rfl,h⟩):Calls Tryz.prog 59 #[ptrV E.gr,.string ⟨w.toArray⟩] W Q' :=
 (zDp HF.out HS.out w hw).mono λe W' h'=>by
  rcases h'.go with⟨rfl,hs⟩|⟨i,rfl,hs,hi⟩
  .exact hq _ _ (HP.out _ _ (hI▸hs.sub (List.drop_sublist n I)))
  .exact k _ _ hs hi
theorem mMf(HF:Hid (SynF E))(HS:Hid (St E W j I))(w:List UInt8)(y:∀i W',Hid (St E W' i I)->(j<i/\i<=j+1/\i<=E.N)->Q' (.returned (.bool true)) W')(n:∀W',Hid (St E W' j I)->isW E j w=false->Q' (.returned (.bool false)) W')(hw:w≠[]:=by decide):Calls Tryz.prog 38 #[ptrV E.gr,.string ⟨w.toArray⟩] W Q' :=
 (zBz HF.out HS.out w hw).mono λe W' h'=>by
  rcases h'.go with⟨i,rfl,hs,hi⟩|⟨hf,rfl,hs⟩
  .exact y _ _ hs hi
  .exact n _ hs hf
theorem mM(HF:Hid (SynF E))(HS:Hid (St E W j I))(w:List UInt8)(y:∀i W',Hid (St E W' i I)->(j<i/\i<=j+1/\i<=E.N)->Q' (.returned (.bool true)) W')(n:∀W',Hid (St E W' j I)->Q' (.returned (.bool false)) W')(hw:w≠[]:=by decide):Calls Tryz.prog 38 #[ptrV E.gr,.string ⟨w.toArray⟩] W Q':=mMf HF HS w y (λW' h _=>n W' h) hw
theorem mQ{v:Value}(h:Calls Tryz.prog f args W (QE v W))(HS:Hid (St E W j I))(k:∀W',Hid (St E W' j I)->Q' (.returned v) W'):Calls Tryz.prog f args W Q' :=
 h.mono λe W' h'=>by obtain⟨rfl,hb⟩:=h';exact k _ (Hd (HS.out.ext hb))
theorem mX(HF:Hid (SynF E))(HS:Hid (St E W j I))(k:∀W',Hid (St E W' j I)->Q' (.returned (.string (wordZ E j))) W'):Calls Tryz.prog 61 #[ptrV E.gr] W Q':=mQ (gO HF.out HS.out.r) HS k
theorem mT(h:Calls Tryz.prog f args W (QB W))(HS:Hid (St E W j I))(k:∀b W',Hid (St E W' j I)->Q' (.returned (.bool b)) W'):Calls Tryz.prog f args W Q' :=
 h.mono λe W' h'=>by obtain⟨b,rfl,hb⟩:=h'.out;exact k _ _ (Hd (HS.out.ext hb))
theorem mF(HS:Hid (St E W j I))(HP:HPn E I0 Q)(n:Nat)(hI:I.drop n=I0:=by rfl)(hq:∀i W',Q (panE i) W'->Q' (panE i) W':=by exactλ_ _ h=>⟨rfl,h⟩):Calls Tryz.prog 40 #[ptrV E.gr] W Q' :=
 (fR HS.out.r).mono λe W' h'=>by obtain⟨rfl,hb⟩:=h';exact hq _ _ (HP.out _ _ (hI▸(HS.out.ext hb).sub (List.drop_sublist n I)))
theorem mP(HS:Hid (St E W j I))(kd:Nat)(k:∀g W',Hid (St E W' j (.raw g (nodeC kd (-1) j 0 (.slice none 0 0))::.row (.slice none 0 0) [] []::I))->Q' (.returned (ptrV g)) W')(hk:kd<256:=by decide):Calls Tryz.prog 58 #[ptrV E.gr,.int .u8 (kd:Int)] W Q' :=
 (yAv HS.out kd hk).mono λe W' h'=>by obtain⟨g,rfl,hs⟩:=h'.go;exact k _ _ hs
theorem mZ(HS:Hid (St E W j I))(kd:Nat)(k:∀g W',Hid (St E W' j (.done g kd [] [(kd,0,textZ E kd (-1))]::I))->Q' (.returned (ptrV g)) W')(hk:kd<256/\leastC kd=0:=by decide):Calls Tryz.prog 101 #[ptrV E.gr,.int .u8 (kd:Int)] W Q' :=
 (zPk HS.out kd hk.1).mono λe W' h'=>by obtain⟨g,rfl,hs⟩:=h'.no hk;exact k _ _ hs
theorem mD(HF:Hid (SynF E)){v:Value}{gs:List Nat}{ps:List Prt}(HS:Hid (St E W j (.row v gs ps::I)))(kd:Nat)(k:∀g W',Hid (St E W' j (.done g kd gs ((kd,(gs.length:Int),textZ E kd (-1))::ps)::I))->Q' (.returned (ptrV g)) W')(hk:kd<256/\leastC kd=0:=by decide)(hl:gs.length<=1000000000:=by omega):Calls Tryz.prog 63 #[ptrV E.gr,.int .u8 (kd:Int),v] W Q' :=
 (yAw HF.out HS.out kd hk hl).mono λe W' h'=>by obtain⟨g,rfl,hs⟩:=h'.go;exact k _ _ hs
theorem mK{A:List Item}{n kd:Nat}{w:Int}{gs:List Nat}{ps:List Prt}(h:Calls Tryz.prog f args W (PC E I A j n kd w gs ps))(k:∀W',Hid (St E W' j (A++.done n kd gs ((kd,(gs.length:Int),textZ E kd w)::ps)::I))->Q' (.returned (ptrV n)) W'):Calls Tryz.prog f args W Q' :=
 h.mono λe W' h'=>by obtain⟨rfl,hs⟩:=h'.go;exact k _ hs
theorem mC(HF:Hid (SynF E))(A:List Item){n kd:Nat}{w f t:Int}{v:Value}{gs:List Nat}{ps:List Prt}(HS:Hid (St E W j (A++.raw n (nodeC kd w f t v)::.row v gs ps::I))){us:List Nat}{psu:List Prt}(hg:GoodS E W (FrB E W (A++.raw n (nodeC kd w f t v)::.row v gs ps::I)) us psu)(k:∀W',Hid (St E W' j (A++.done n kd (gs++us) ((kd,((gs++us).length:Int),textZ E kd w)::(ps++psu))::I))->Q' (.returned (ptrV n)) W'){C:Array Value}{c b:Nat}(hC:C=(ptrsV us).toArray:=by rfl)(hl:gs.length+us.length<=1000000000:=by(try simp);try omega)(hw:-1<=w/\w<E.N:=by omega)(hk:kd<256/\leastC kd<=gs.length+us.length:=by refine⟨V,?_⟩;(try simp[leastC]);try omega)(hc:us.length<=c:=by exact nR _)(hb:b=W.heap.size:=by(try simp);try rfl):Calls Tryz.prog 65 #[ptrV E.gr,ptrV n,.slice (some ⟨b,0,none⟩) us.length c] (W.alloc (.cells C 41)) Q' :=
 mK (zSp HF.out A HS.out hg hC hl hw hk hc hb) k
section
variable {g1 g2 g3 g4 g5 k1 k2 k3 k4 k5:Nat} {s1 s2 s3 s4 s5:List Nat} {p1 p2 p3 p4 p5:List Prt}
theorem gs1(h:Hid (St E W j (.done g1 k1 s1 p1::I))):GoodS E W (FrB E W (.done g1 k1 s1 p1::I)) [g1] (p1++[]):=.cons (h.out.ok _ t0) (.nil _ _ _)
theorem gs2(h:Hid (St E W j (.done g2 k2 s2 p2::.done g1 k1 s1 p1::I))):GoodS E W (FrB E W (.done g2 k2 s2 p2::.done g1 k1 s1 p1::I)) [g1,g2] (p1++(p2++[])):=.cons (h.out.ok _ t1) (.cons (h.out.ok _ t0) (.nil _ _ _))
theorem gs3(h:Hid (St E W j (.done g3 k3 s3 p3::.done g2 k2 s2 p2::.done g1 k1 s1 p1::I))):GoodS E W (FrB E W (.done g3 k3 s3 p3::.done g2 k2 s2 p2::.done g1 k1 s1 p1::I)) [g1,g2,g3] (p1++(p2++(p3++[]))):=.cons (h.out.ok _ t2) (.cons (h.out.ok _ t1) (.cons (h.out.ok _ t0) (.nil _ _ _)))
theorem gs4(h:Hid (St E W j (.done g4 k4 s4 p4::.done g3 k3 s3 p3::.done g2 k2 s2 p2::.done g1 k1 s1 p1::I))):GoodS E W (FrB E W (.done g4 k4 s4 p4::.done g3 k3 s3 p3::.done g2 k2 s2 p2::.done g1 k1 s1 p1::I)) [g1,g2,g3,g4] (p1++(p2++(p3++(p4++[])))):=.cons (h.out.ok _ t3) (.cons (h.out.ok _ t2) (.cons (h.out.ok _ t1) (.cons (h.out.ok _ t0) (.nil _ _ _))))
end
theorem mE{n i:Nat}{v:Value}(h:Calls Tryz.prog f args W (PNm E I n v i a κ))(HP:HPn E I0 Q)(m:Nat)(k:∀k s p l W',Hid (St E W' l (.done n k s p::I))->(i<=l/\l<=E.N/\1<=p.length/\(p.length:Int)<=8*((l:Int)-i)+a)->Q' (.returned v) W')(hI:I.drop m=I0:=by rfl)(hq:∀i W',Q (panE i) W'->Q' (panE i) W':=by exactλ_ _ h=>⟨rfl,h⟩):Calls Tryz.prog f args W Q' :=
 h.mono λe W' h'=>by
  rcases h'.go with⟨i,rfl,hs⟩|⟨k',s,p,i,rfl,hs,hi,_⟩
  .exact hq _ _ (HP.out _ _ (hI▸hs.sub (List.drop_sublist m I)))
  .exact k _ _ _ _ _ hs hi
theorem mEk{n i:Nat}{v:Value}(h:Calls Tryz.prog f args W (PNm E I n v i a κ))(HP:HPn E I0 Q)(m:Nat)(k:∀k s p l W',Hid (St E W' l (.done n k s p::I))->(i<=l/\l<=E.N/\1<=p.length/\(p.length:Int)<=8*((l:Int)-i)+a)->κ p->Q' (.returned v) W')(hI:I.drop m=I0:=by rfl)(hq:∀i W',Q (panE i) W'->Q' (panE i) W':=by exactλ_ _ h=>⟨rfl,h⟩):Calls Tryz.prog f args W Q' :=
 h.mono λe W' h'=>by
  rcases h'.go with⟨i,rfl,hs⟩|⟨k',s,p,i,rfl,hs,hi,hk⟩
  .exact hq _ _ (HP.out _ _ (hI▸hs.sub (List.drop_sublist m I)))
  .exact k _ _ _ _ _ hs hi hk
theorem mR(HF:Hid (SynF E))(HS:Hid (St E W j I))(opn mrk shut:List UInt8){v:Value}{fk:FuncId}{fa:Array Value}(hv:FnV v fk fa)(b:Int)(hc:∀W' i J,j<i->St E W' i (J::I)->Calls Tryz.prog fk fa W' (PNk E (J::I) i b κ))(HP:HPn E I0 Q)(n:Nat)(k:∀a n c s p i W',Hid (St E W' i (.row (.slice a n c) s p::I))->(j<i/\i<=E.N/\(p.length:Int)<=8*((i:Int)-j)-8/\s.length<=i-j)->Q' (.returned (.slice a n c)) W')(hx:opn≠[]/\mrk≠[]/\shut≠[]/\b<=0:=by decide)(hI:I.drop n=I0:=by rfl)(hq:∀i W',Q (panE i) W'->Q' (panE i) W':=by exactλ_ _ h=>⟨rfl,h⟩):Calls Tryz.prog 108 #[ptrV E.gr,.string ⟨opn.toArray⟩,.string ⟨mrk.toArray⟩,.string ⟨shut.toArray⟩,v] W Q' :=
 (zLb HF.out HS.out opn mrk shut hx.1 hx.2.1 hx.2.2.1 hv b hx.2.2.2 hc).mono λe W' h'=>by
  rcases h'.go with⟨_,i,rfl,hs⟩|⟨a,n,c,s,p,_,i,rfl,hs,hi,_⟩
  .exact hq _ _ (HP.out _ _ (hI▸hs.sub (List.drop_sublist n I)))
  .exact k _ _ _ _ _ _ _ hs hi
theorem mRk(HF:Hid (SynF E))(HS:Hid (St E W j I))(opn mrk shut:List UInt8){v:Value}{fk:FuncId}{fa:Array Value}(hv:FnV v fk fa)(b:Int)(hc:∀W' i J,j<i->St E W' i (J::I)->Calls Tryz.prog fk fa W' (PNk E (J::I) i b κ))(HP:HPn E I0 Q)(n:Nat)(k:∀a n c s p i W',Hid (St E W' i (.row (.slice a n c) s p::I))->(j<i/\i<=E.N/\(p.length:Int)<=8*((i:Int)-j)-8/\s.length<=i-j)->RowK κ s.length p->(s.length=0->isW E (j+1) shut=true)->Q' (.returned (.slice a n c)) W')(hx:opn≠[]/\mrk≠[]/\shut≠[]/\b<=0:=by decide)(hI:I.drop n=I0:=by rfl)(hq:∀i W',Q (panE i) W'->Q' (panE i) W':=by exactλ_ _ h=>⟨rfl,h⟩):Calls Tryz.prog 108 #[ptrV E.gr,.string ⟨opn.toArray⟩,.string ⟨mrk.toArray⟩,.string ⟨shut.toArray⟩,v] W Q' :=
 (zLb HF.out HS.out opn mrk shut hx.1 hx.2.1 hx.2.2.1 hv b hx.2.2.2 hc).mono λe W' h'=>by
  rcases h'.go with⟨_,i,rfl,hs⟩|⟨a,n,c,s,p,_,i,rfl,hs,hi,hk,hz⟩
  .exact hq _ _ (HP.out _ _ (hI▸hs.sub (List.drop_sublist n I)))
  .exact k _ _ _ _ _ _ _ hs hi hk λh=>(hz h).2
theorem mR1(HF:Hid (SynF E))(HS:Hid (St E W j I))(opn mrk shut:List UInt8)(h:Okk E f r a κ m)(hv:FnV (.func (.func f) #[ptrV E.gr] #[]) f #[ptrV E.gr])(HP:HPn E I0 Q)(n:Nat)(k:∀a n c s p i W',Hid (St E W' i (.row (.slice a n c) s p::I))->(j<i/\i<=E.N/\(p.length:Int)<=8*((i:Int)-j)-8/\s.length<=i-j)->Q' (.returned (.slice a n c)) W')(hm:64*(E.N-j)+r<m+64:=by omega)(hx:opn≠[]/\mrk≠[]/\shut≠[]/\a<=0:=by decide)(hI:I.drop n=I0:=by rfl)(hq:∀i W',Q (panE i) W'->Q' (panE i) W':=by exactλ_ _ h=>⟨rfl,h⟩):Calls Tryz.prog 108 #[ptrV E.gr,.string ⟨opn.toArray⟩,.string ⟨mrk.toArray⟩,.string ⟨shut.toArray⟩,.func (.func f) #[ptrV E.gr] #[]] W Q' :=
 mR HF HS opn mrk shut hv a (λW' i J h1 h2=>h _ _ _ h2 (by have:=h2.r.le;omega)) HP n k hx hI hq
theorem rQ{W:World}{g k i:Nat}{gs:List Nat}{ps:List Prt}(HQ:HRt E I j a Q)(h:St E W i (.done g k gs ps::I))(h1:j<=i:=by omega)(h2:(ps.length:Int)<=8*((i:Int)-j)+a:=by(try simp only[lC,lA,lN]at *);omega):Q (.returned (ptrV g)) W:=HQ.out _ _ _ _ _ _ h h1 h2
theorem rK{W:World}{g k i:Nat}{gs:List Nat}{ps:List Prt}(HQ:HRk E I j a κ Q)(h:St E W i (.done g k gs ps::I))(hk:κ ps)(h1:j<=i:=by omega)(h2:(ps.length:Int)<=8*((i:Int)-j)+a:=by(try simp only[lC,lA,lN]at *);omega):Q (.returned (ptrV g)) W:=HQ.out _ _ _ _ _ _ h h1 h2 hk
theorem rM{W:World}{n k i:Nat}{v:Value}{gs:List Nat}{ps:List Prt}(HQ:HRm E I n v j a κ Q)(h:St E W i (.done n k gs ps::I))(hk:κ ps)(h1:j<=i:=by omega)(h2:(ps.length:Int)<=8*((i:Int)-j)+a:=by(try simp only[lC,lA,lN]at *);omega):Q (.returned v) W:=HQ.out _ _ _ _ _ h h1 h2 hk
theorem rN{W:World}{n k i:Nat}{v:Value}{gs:List Nat}{ps:List Prt}(HQ:HRn E I n v j a Q)(h:St E W i (.done n k gs ps::I))(h1:j<=i:=by omega)(h2:(ps.length:Int)<=8*((i:Int)-j)+a:=by(try simp only[lC,lA,lN]at *);omega):Q (.returned v) W:=HQ.out _ _ _ _ _ h h1 h2
theorem mS{p:Prop}(E:SynE)(j:Nat)(l:List UInt8)(y:(wordZ E j).toList=l->j+1<=E.N->p)(n:((wordZ E j).toList==l)=false->p)(hl:l≠[]:=by decide):p:=by
 by_cases h:(wordZ E j).toList=l
 .exact y h (gP h hl)
 .exact n (nq h)
theorem mI{WB:World}{J:List Item}(HB:Hid (St E WB j J))(HS:Hid (St E W j I))(hN:E.N<=1000000)(h:j+1<=E.N:=by omega):IntKind.i64.wrap ((j:Int)+1)=(j:Int)+1/\WB.cell? ⟨E.gr,3,none⟩=some (.int .i64 (j:Int))/\WB.frozen? ⟨E.gr,3,none⟩=false/\
  ∃i,Hid (St E (W.setCell ⟨E.gr,3,none⟩ (.int .i64 ((j:Int)+1))) i I)/\(j<i/\i<=j+1/\i<=E.N):=⟨wi64 _ Z,HB.out.r.c3,HB.out.r.z 3,HS.out.inc h⟩
end
theorem zPu{E:SynE}:FnV (.func (.func 57) #[ptrV E.gr] #[]) 57 #[ptrV E.gr]:=FnV.meth Tryz.func57 Oa rfl #[ptrV E.gr]
theorem zSq{E:SynE}:FnV (.func (.func 55) #[ptrV E.gr] #[]) 55 #[ptrV E.gr]:=FnV.meth Tryz.func55 Oa rfl #[ptrV E.gr]
theorem yBb{E:SynE}:FnV (.func (.func 111) #[ptrV E.gr] #[]) 111 #[ptrV E.gr]:=FnV.meth Tryz.func111 Oa rfl #[ptrV E.gr]
theorem zAl{E:SynE}:FnV (.func (.func 35) #[ptrV E.gr] #[]) 35 #[ptrV E.gr]:=FnV.meth Tryz.func35 Oa rfl #[ptrV E.gr]
theorem gQ{E:SynE}:FnV (.func (.func 194) #[ptrV E.gr] #[]) 194 #[ptrV E.gr]:=FnV.meth Tryz.func194 Oa rfl #[ptrV E.gr]
theorem zMs{E:SynE}:FnV (.func (.func 94) #[ptrV E.gr] #[]) 94 #[ptrV E.gr]:=FnV.meth Tryz.func94 Oa rfl #[ptrV E.gr]
theorem gF{E:SynE}:FnV (.func (.func 152) #[ptrV E.gr] #[]) 152 #[ptrV E.gr]:=FnV.meth Tryz.func152 Oa rfl #[ptrV E.gr]
theorem yBc{E:SynE}:FnV (.func (.func 34) #[ptrV E.gr] #[]) 34 #[ptrV E.gr]:=FnV.meth Tryz.func34 Oa rfl #[ptrV E.gr]
theorem yBd{E:SynE}:FnV (.func (.func 156) #[ptrV E.gr] #[]) 156 #[ptrV E.gr]:=FnV.meth Tryz.func156 Oa rfl #[ptrV E.gr]
theorem zSr{E:SynE}:FnV (.func (.func 222) #[ptrV E.gr] #[]) 222 #[ptrV E.gr]:=FnV.meth Tryz.func222 Oa rfl #[ptrV E.gr]
theorem zKd{E:SynE}:FnV (.func (.func 105) #[ptrV E.gr] #[]) 105 #[ptrV E.gr]:=FnV.meth Tryz.func105 Oa rfl #[ptrV E.gr]
theorem zMt{E:SynE}:FnV (.func (.func 106) #[ptrV E.gr] #[]) 106 #[ptrV E.gr]:=FnV.meth Tryz.func106 Oa rfl #[ptrV E.gr]
theorem zPv{E:SynE}:FnV (.func (.func 107) #[ptrV E.gr] #[]) 107 #[ptrV E.gr]:=FnV.meth Tryz.func107 Oa rfl #[ptrV E.gr]
theorem zMu{E:SynE}:FnV (.func (.func 104) #[ptrV E.gr] #[]) 104 #[ptrV E.gr]:=FnV.meth Tryz.func104 Oa rfl #[ptrV E.gr]
theorem yBe{E:SynE}:FnV (.func (.func 96) #[ptrV E.gr] #[]) 96 #[ptrV E.gr]:=FnV.meth Tryz.func96 Oa rfl #[ptrV E.gr]
theorem yEz{E:SynE}:FnV (.func (.func 97) #[ptrV E.gr] #[]) 97 #[ptrV E.gr]:=FnV.meth Tryz.func97 Oa rfl #[ptrV E.gr]
theorem zIf{E:SynE}:FnV (.func (.func 227) #[ptrV E.gr] #[]) 227 #[ptrV E.gr]:=FnV.meth Tryz.func227 Oa rfl #[ptrV E.gr]
set_option maxRecDepth 100000
set_option maxHeartbeats 32000000
attribute [local irreducible] wpStill
section
variable {E:SynE}
theorem yEu{m:Nat}(HF:Hid (SynF E))(HI:Hid (IH E m)):Okk E 35 11 (-7) X1 (m+1):=by
 refine okK HF λW j I Q HP HQ HS hN hj hm=>?_;go_enter Tryz.func35,Tryz.ntmps35;go_wp2_with fail;refine mBik HI 1 HS HP 0 λg1 k1 s1 p1 i1 w1 HS1 hi1 kp1=>?_;go_wp2_with fail;exact rK HQ HS1.out kp1
theorem yAi{m:Nat}(HF:Hid (SynF E))(HI:Hid (IH E m)):Okk E 99 9 (-7) X1 (m+1):=by
 refine okK HF λW j I Q HP HQ HS hN hj hm=>?_;go_enter Tryz.func99,Tryz.ntmps99;go_wp2_with fail;refine mP HS 36 λg1 w1 HS1=>?_;go_wp2_with fail;refine mX HF HS1 λw2 HS2=>?_;refine mS E j [60,45] (λhx3 hp3=>?_) λhn3=>?_
 .have hw1:IntKind.i64.wrap ((j:Int)+1)=(j:Int)+1:=wi64 _ Z;have c3:=HS2.out.r.c3;have z3:=HS2.out.r.z 3;go_wp2_with fail;refine mQ (yX HF.out HS2.out.r ((j:Int)+1) Z) HS2 λw4 HS4=>?_;clear hw1 c3 z3 HS2;cases hx5:((wordZ E ((j:Int)+1)).toList==[99,104,97,110])with
  |true =>
   go_wp2_with fail;refine mOk HI.out.primary HS4 HP 2 λg6 k6 s6 p6 i6 w6 HS6 hi6 kp6=>?_;clear hx3 hp3 hx5 HS4;go_wp2_with fail;exact rK HQ HS6.out.pop2.pop2 kp6
  |false =>
   obtain⟨c0,c1,c4,cz,cn,cn2⟩:=HS4.out.ncell t0;have c3:=HS4.out.r.c3;have z3:=HS4.out.r.z 3;have HS7:=Hd (HS4.out.setW [] (j:Int));obtain⟨hw,-,-,i8,HS8,hi8⟩:=mI HS7 HS7 hN;go_wp2_with fail;refine mOk HI.out.unary HS8 HP 2 λg9 k9 s9 p9 i9 w9 HS9 hi9 kp9=>?_;clear c0 c1 c4 cz cn cn2 c3 z3 HS4 hw HS7 hx3 hp3 hx5 HS8;go_wp2_with fail;refine mC HF [_] HS9 (gs1 HS9) (λw10 HS10=>?_);go_wp2_with fail;exact rK HQ HS10.out.tl (by simpa[tz0]using x_un _ (kp9))
 by_cases hx11:(wordZ E j).toList=[43]\/(wordZ E j).toList=[45]\/(wordZ E j).toList=[33]\/(wordZ E j).toList=[94]\/(wordZ E j).toList=[38]
 .rcases hx11 with hx11|hx11|hx11|hx11|hx11;all_goals
   have hp11:=gP hx11 V;obtain⟨c0,c1,c4,cz,cn,cn2⟩:=HS2.out.ncell t0;have c3:=HS2.out.r.c3;have z3:=HS2.out.r.z 3;have HS12:=Hd (HS2.out.setW [] (j:Int));obtain⟨hw,-,-,i13,HS13,hi13⟩:=mI HS12 HS12 hN;go_wp2_with fail;refine mOk HI.out.unary HS13 HP 2 λg14 k14 s14 p14 i14 w14 HS14 hi14 kp14=>?_;clear c0 c1 c4 cz cn cn2 c3 z3 HS2 hw HS12 hn3 hx11 hp11 HS13;go_wp2_with fail;refine mC HF [_] HS14 (gs1 HS14) (λw15 HS15=>?_);go_wp2_with fail;exact rK HQ HS15.out.tl (by simpa[tz0]using x_un _ (kp14))
 simp only[not_or]at hx11;obtain⟨hn16,hn17,hn18,hn19,hn20⟩:=hx11;replace hn16:=nq hn16;replace hn17:=nq hn17;replace hn18:=nq hn18;replace hn19:=nq hn19;replace hn20:=nq hn20;refine mS E j [42] (λhx21 hp21=>?_) λhn21=>?_
 .obtain⟨c0,c1,c4,cz,cn,cn2⟩:=HS2.out.ncell t0;have HS22:=Hd (HS2.out.setK [] 35);obtain⟨hw,c3,z3,i23,HS23,hi23⟩:=mI HS2 HS22 hN;go_wp2_with fail;refine mOk HI.out.unary HS23 HP 2 λg24 k24 s24 p24 i24 w24 HS24 hi24 kp24=>?_;clear c0 c1 c4 cz cn cn2 HS2 c3 z3 hw HS22 hn3 hn16 hn17 hn18 hn19 hn20 hx21 hp21 HS23;go_wp2_with fail;refine mC HF [_] HS24 (gs1 HS24) (λw25 HS25=>?_);go_wp2_with fail;exact rK HQ HS25.out.tl (by simpa[tz0]using yBf (kp24))
 go_wp2_with fail;refine mOk HI.out.primary HS2 HP 2 λg26 k26 s26 p26 i26 w26 HS26 hi26 kp26=>?_;clear hn3 hn16 hn17 hn18 hn19 hn20 hn21 HS2;go_wp2_with fail;exact rK HQ HS26.out.pop2.pop2 kp26
end
section
variable {E:SynE}
theorem zSk{m:Nat}(HF:Hid (SynF E))(HI:Hid (IH E m)):OkN E 186 2 (-7) (m+1):=by
 refine okJ HF λW j I Q HP HQ HS hN hj hjN hm=>?_;go_enter Tryz.func186,Tryz.ntmps186;go_wp2_with fail;refine mP HS 54 λg1 w1 HS1=>?_;go_wp2_with fail;refine mX HF HS1 λw2 HS2=>?_;refine mS E j [100,101,102,101,114] (λhx3 hp3=>?_) λhn3=>?_
 .obtain⟨c0,c1,c4,cz,cn,cn2⟩:=HS2.out.ncell t0;have HS4:=Hd (HS2.out.setK [] 55);obtain⟨hw,c3,z3,i5,HS5,hi5⟩:=mI HS2 HS4 hN;go_wp2_with fail;refine mO HI.out.expr HS5 HP 2 λg6 k6 s6 p6 i6 w6 HS6 hi6=>?_;clear c0 c1 c4 cz cn cn2 HS2 c3 z3 hw HS4 hx3 hp3 HS5;go_wp2_with fail;refine mC HF [_] HS6 (gs1 HS6) (λw7 HS7=>?_);go_wp2_with fail;exact rQ HQ HS7.out.tl
 obtain⟨hw,c3,z3,i8,HS8,hi8⟩:=mI HS2 HS2 hN;go_wp2_with fail;refine mO HI.out.expr HS8 HP 2 λg9 k9 s9 p9 i9 w9 HS9 hi9=>?_;clear c3 z3 hw HS2 hn3 HS8;go_wp2_with fail;refine mC HF [_] HS9 (gs1 HS9) (λw10 HS10=>?_);go_wp2_with fail;exact rQ HQ HS10.out.tl
theorem zPf{m:Nat}(HF:Hid (SynF E))(HI:Hid (IH E m)):OkN E 187 2 (-6) (m+1):=by
 refine okJ HF λW j I Q HP HQ HS hN hj hjN hm=>?_;go_enter Tryz.func187,Tryz.ntmps187;go_wp2_with fail;refine mP HS 56 λg1 w1 HS1=>?_;obtain⟨hw,c3,z3,i2,HS2,hi2⟩:=mI HS1 HS1 hN;go_wp2_with fail;refine mZ HS2 11 λg3 w3 HS3=>?_;clear c3 z3 hw HS1 HS2;go_wp2_with fail;refine mT (zLa HF.out HS3.out.r) HS3 λbb w4 HS4=>?_;cases bb with
 |true =>
  go_wp2_with fail;refine mC HF [_] HS4 (gs1 HS4) (λw5 HS5=>?_);go_wp2_with fail;exact rQ HQ HS5.out.tl
 |false =>
  go_wp2_with fail;refine mO HI.out.exprs HS4 HP 3 λg6 k6 s6 p6 i6 w6 HS6 hi6=>?_;go_wp2_with fail;refine mC HF [_,_] HS6 (gs1 HS6) (λw7 HS7=>?_);go_wp2_with fail;exact rQ HQ HS7.out.tl.tl
theorem zWt{m:Nat}(HF:Hid (SynF E))(HI:Hid (IH E m)):OkN E 188 2 (-6) (m+1):=by
 refine okJ HF λW j I Q HP HQ HS hN hj hjN hm=>?_;go_enter Tryz.func188,Tryz.ntmps188;go_wp2_with fail;refine mP HS 57 λg1 w1 HS1=>?_;obtain⟨c0,c1,c4,cz,cn,cn2⟩:=HS1.out.ncell t0;have c3:=HS1.out.r.c3;have z3:=HS1.out.r.z 3;have HS2:=Hd (HS1.out.setW [] (j:Int));go_wp2_with fail;refine mX HF HS2 λw3 HS3=>?_;clear c0 c1 c4 cz cn cn2 c3 z3 HS1 HS2;obtain⟨hw,c3,z3,i4,HS4,hi4⟩:=mI HS3 HS3 hN;go_wp2_with fail;refine mZ HS4 0 λg5 w5 HS5=>?_;clear c3 z3 hw HS3 HS4;refine mS E j [103,111,116,111] (λhx6 hp6=>?_) λhn6=>?_
 .go_wp2_with fail;refine mA HF HS5 HP 3 λg7 i7 w7 HS7 hi7=>?_;clear hx6 hp6 HS5;go_wp2_with fail;refine mC HF [_,_] HS7 (gs1 HS7) (λw8 HS8=>?_);go_wp2_with fail;exact rQ HQ HS8.out.tl.tl
 refine mS E j [102,97,108,108,116,104,114,111,117,103,104] (λhx9 hp9=>?_) λhn9=>?_
 .go_wp2_with fail;refine mC HF [_] HS5 (gs1 HS5) (λw10 HS10=>?_);go_wp2_with fail;exact rQ HQ HS10.out.tl
 have c3:=HS5.out.r.c3;have z3:=HS5.out.r.z 3;go_wp2_with fail;refine mQ (xS HF.out HS5.out.r ((i4:Int)) Z) HS5 λw11 HS11=>?_;clear c3 z3 HS5;cases hx12:namedB E (i4:Int)with
 |true =>
  go_wp2_with fail;refine mA HF HS11 HP 3 λg13 i13 w13 HS13 hi13=>?_;clear hn6 hn9 hx12 HS11;go_wp2_with fail;refine mC HF [_,_] HS13 (gs1 HS13) (λw14 HS14=>?_);go_wp2_with fail;exact rQ HQ HS14.out.tl.tl
 |false =>
  go_wp2_with fail;refine mC HF [_] HS11 (gs1 HS11) (λw15 HS15=>?_);go_wp2_with fail;exact rQ HQ HS15.out.tl
theorem zPg{m:Nat}(HF:Hid (SynF E))(HI:Hid (IH E m)){W:World}{j:Nat}{I:List Item}{n gl kl:Nat}{w f t:Int}{sl:List Nat}{pl:List Prt}(HS:Hid (St E W j (.done gl kl sl pl::.raw n (nodeC 0 w f t (.slice none 0 0))::.row (.slice none 0 0) [] []::I)))(hw:w=-1)(hm:64*(E.N-j)+13<m+1):Calls Tryz.prog 193 #[ptrV E.gr,ptrV n,ptrV gl] W (PNn E I n (ptrV n) j (pl.length:Int)):=by
 subst hw;refine nnI HF HS λQ HP HQ hN hj=>?_;go_enter Tryz.func193,Tryz.ntmps193;go_wp2_with fail;refine mX HF HS λw1 HS1=>?_;go_wp2_with fail;refine(zPn _ _).mono ?_;rintro e w2 ⟨rfl,rfl⟩;cases hx3:assignsZ (wordZ E j).toList with
 |true =>
  have hp0:=zSn hx3;obtain⟨c0,c1,c4,cz,cn,cn2⟩:=HS1.out.ncell t1;have c3:=HS1.out.r.c3;have z3:=HS1.out.r.z 3;have HS4:=Hd (HS1.out.setK [_] 53);have HS5:=Hd (HS4.out.setW [_] (j:Int));obtain⟨hw,-,-,i6,HS6,hi6⟩:=mI HS5 HS5 hN;go_wp2_with fail;refine mO HI.out.exprs HS6 HP 3 λg7 k7 s7 p7 i7 w7 HS7 hi7=>?_;clear c0 c1 c4 cz cn cn2 c3 z3 HS1 HS4 hw HS5 hx3 hp0 HS6;go_wp2_with fail;refine mC HF [_,_] HS7 (gs2 HS7) (λw8 HS8=>?_);go_wp2_with fail;exact rN HQ HS8.out.tl.tl
 |false =>
  obtain⟨_,_,_,_,-,-,-,-,l4,⟨la,lc,rfl⟩,-⟩:=Good.c (HS1.out.ok _ t0);by_cases hl1:sl.length=1
  .obtain⟨b0,c0,e4,hc0,e0,kx,gx,px,GX,hpx⟩:=Good.kid (HS1.out.ok _ t0) (i:=0) Z;rw[l4]at e4;simp only[Option.some.injEq,Value.slice.injEq,true_and]at e4;obtain⟨rfl,rfl⟩:=e4;have h0n:(0:Int)<sl.length:=Z;have h0m:0<sl.length:=Z;have hl2:((sl.length:Int) != 1)=false:=by simp;omega
   rw[hl1]at l4;have HS10:=Hd (HS1.out.again GX);generalize sl[0]=gx0 at *;by_cases hx11:(wordZ E j).toList=[43,43]\/(wordZ E j).toList=[45,45]
   .rcases hx11 with hx11|hx11;all_goals
     have hp11:=gP hx11 V;obtain⟨c0,c1,c4,cz,cn,cn2⟩:=HS10.out.ncell t2;have c3:=HS10.out.r.c3;have z3:=HS10.out.r.z 3;have HS12:=Hd (HS10.out.setK [_,_] 52);have HS13:=Hd (HS12.out.setW [_,_] (j:Int));obtain⟨hw,-,-,i14,HS14,hi14⟩:=mI HS13 HS13 hN;go_wp2_with fail;refine mC HF [_,_] HS14 (gs1 HS14) (λw15 HS15=>?_);clear HS1 l4 e0 GX c0 c1 c4 cz cn cn2 c3 z3 HS10 HS12 hw HS13 hx3 hx11 hp11 HS14;go_wp2_with fail;exact rN HQ HS15.out.tl.tl
   simp only[not_or]at hx11;obtain⟨hn16,hn17⟩:=hx11;replace hn16:=nq hn16;replace hn17:=nq hn17;refine mS E j [60,45] (λhx18 hp18=>?_) λhn18=>?_
   .obtain⟨c0,c1,c4,cz,cn,cn2⟩:=HS10.out.ncell t2;have HS19:=Hd (HS10.out.setK [_,_] 51);obtain⟨hw,c3,z3,i20,HS20,hi20⟩:=mI HS10 HS19 hN;go_wp2_with fail;refine mO HI.out.expr HS20 HP 4 λg21 k21 s21 p21 i21 w21 HS21 hi21=>?_;clear HS1 l4 e0 GX c0 c1 c4 cz cn cn2 HS10 c3 z3 hw HS19 hx3 hn16 hn17 hx18 hp18 HS20;go_wp2_with fail;refine mC HF [_,_,_] HS21 (gs2 HS21) (λw22 HS22=>?_);go_wp2_with fail;exact rN HQ HS22.out.tl.tl.tl
   obtain⟨c0,c1,c4,cz,cn,cn2⟩:=HS10.out.ncell t2;have HS23:=Hd (HS10.out.setK [_,_] 50);go_wp2_with fail;refine mC HF [_,_] HS23 (gs1 HS23) (λw24 HS24=>?_);clear HS1 l4 e0 GX c0 c1 c4 cz cn cn2 HS10 HS23;go_wp2_with fail;exact rN HQ HS24.out.tl.tl
  .have hl2:((sl.length:Int) != 1)=true:=by simp;omega
   go_wp2_with fail;exact mF HS1 HP 3
theorem zWu{m:Nat}(HF:Hid (SynF E))(HI:Hid (IH E m)):Ok E 152 20 (-6) (m+1):=by
 refine okI HF λW j I Q HP HQ HS hN hj hm=>?_;go_enter Tryz.func152,Tryz.ntmps152;go_wp2_with fail;refine mP HS 0 λg1 w1 HS1=>?_;go_wp2_with fail;refine mO HI.out.exprs HS1 HP 2 λg2 k2 s2 p2 i2 w2 HS2 hi2=>?_;go_wp2_with fail;refine mE (zPg HF HI HS2 rfl Z) HP 0 λk3 s3 p3 i3 w3 HS3 hi3=>?_;go_wp2_with fail;exact rQ HQ HS3.out
end
section
variable {E:SynE}
theorem jH{m:Nat}(HF:Hid (SynF E))(HI:Hid (IH E m)){W:World}{j:Nat}{I:List Item}{n k:Nat}{w f t:Int}{v:Value}{gs:List Nat}{ps:List Prt}(HS:Hid (St E W j (.raw n (nodeC k w f t v)::.row v gs ps::I)))(hk:k<256/\leastC k=0)(hw:-1<=w/\w<E.N)(hl:gs.length<=1000)(hm:64*(E.N-j)+7<m+1):Calls Tryz.prog 98 #[ptrV E.gr,ptrV n] W (PNm E I n (ptrV n) j ((ps.length:Int)-6) (λq=>∃p,X1 p/\q=(k,((gs.length+1:Nat):Int),textZ E k w)::(ps++p))):=by
 refine nnK HF HS λQ HP HQ hN hj=>?_;go_enter Tryz.func98,Tryz.ntmps98;go_wp2_with fail;refine mOk HI.out.typ HS HP 2 λg1 k1 s1 p1 i1 w1 HS1 hi1 kp1=>?_;obtain⟨hk1,hk2⟩:=hk;go_wp2_with fail;refine mC HF [_] HS1 (gs1 HS1) (λw2 HS2=>?_) (hw:=hw) (hk:=⟨hk1,by rw[hk2];omega⟩);go_wp2_with fail;exact rM HQ HS2.out.tl ⟨p1,kp1,Ob⟩
theorem zFx{m:Nat}(HF:Hid (SynF E))(HI:Hid (IH E m)){W:World}{j:Nat}{I:List Item}{n k:Nat}{w f t:Int}(HS:Hid (St E W j (.raw n (nodeC k w f t (.slice none 0 0))::.row (.slice none 0 0) [] []::I)))(hk:k<256/\leastC k=0)(hw:-1<=w/\w<E.N)(K:Nat)(hK:K<256/\leastC K=0){fv:Value}{fk:FuncId}{fa:Array Value}(hv:FnV fv fk fa)(hc:∀W' i J,j<i->St E W' i J->Calls Tryz.prog fk fa W' (PNd E J i (-5)))(hm:64*(E.N-j)+0<m+1):Calls Tryz.prog 95 #[ptrV E.gr,ptrV n,.int .u8 (K:Int),fv] W (PNm E I n (ptrV n) j (-7) (λq=>∃x y,q=(k,x)::y)):=by
 have HV:=Hd hv;have HC:=Hd hc;have hva:=hv.1;clear hv hc;refine nnK HF HS λQ HP HQ hN hj=>?_;rcases hva with rfl|rfl;all_goals
  go_enter Tryz.func95,Tryz.ntmps95;go_wp2_with fail;refine mR HF HS [123] [59] [125] HV.out (-5) (λW' i J h1 h2=>HC.out _ _ _ Z h2) HP 2 λa1 n1 c1 s1 p1 i1 w1 HS1 hi1=>?_;go_wp2_with fail;refine mD HF HS1 K (λg2 w2 HS2=>?_) hK;go_wp2_with fail;refine mW HF HS2 [125] HP 3 λi3 w3 HS3 hi3=>?_;obtain⟨hk1,hk2⟩:=hk;go_wp2_with fail;refine mC HF [_] HS3 (gs1 HS3) (λw4 HS4=>?_) (hw:=hw) (hk:=⟨hk1,by rw[hk2];omega⟩);go_wp2_with fail;exact rM HQ HS4.out.tl ⟨_,_,rfl⟩
theorem zCq{m:Nat}(HF:Hid (SynF E))(HI:Hid (IH E m)){W:World}{j:Nat}{I:List Item}(HS:Hid (St E W j I)){fv:Value}{fk:FuncId}{fa:Array Value}(hv:FnV fv fk fa)(hc:∀W' i J,j<i->St E W' i J->Calls Tryz.prog fk fa W' (PNk E J i (-5) X1))(hm:64*(E.N-j)+0<m+1):Calls Tryz.prog 144 #[ptrV E.gr,fv] W (PNk E I j (-7) XS):=by
 have HV:=Hd hv;have HC:=Hd hc;have hva:=hv.1;clear hv hc;refine pnK HF HS λQ HP HQ hN hj=>?_;rcases hva with rfl|rfl;all_goals
  go_enter Tryz.func144,Tryz.ntmps144;have hw1:IntKind.i64.wrap ((j:Int)+1)=(j:Int)+1:=wi64 _ Z;have c3:=HS.out.r.c3;have z3:=HS.out.r.z 3;go_wp2_with fail;refine mQ (yX HF.out HS.out.r ((j:Int)+1) Z) HS λw1 HS1=>?_;clear hw1 c3 z3 HS;cases hx2:((wordZ E ((j:Int)+1)).toList==[93])with
  |true =>
   have hp1:j+1+1<=E.N:=gP (j:=j+1) (w:=[93]) (by simpa using hx2) V;obtain⟨hw,c3,z3,i3,HS3,hi3⟩:=mI HS1 HS1 hN;go_wp2_with fail;exact mF HS3 HP 0
  |false =>
   have HNE:Hid (isW E (j+1) [93]=true->False):=Hd (λh=>by unfold isW at h;rw[show((j+1:Nat):Int)=(j:Int)+1 from rfl,hx2]at h;cases h);go_wp2_with fail;refine mRk HF HS1 [91] [44] [93] HV.out (-5) (λW' i J h1 h2=>HC.out _ _ _ Z h2) HP 0 λa5 n5 c5 s5 p5 i5 w5 HS5 hi5 kp5 kz5=>?_;clear hx2 HS1;go_wp2_with fail;refine mD HF HS5 11 λg6 w6 HS6=>?_;go_wp2_with fail;refine mW HF HS6 [93] HP 1 λi7 w7 HS7 hi7=>?_;go_wp2_with fail;exact rK HQ HS7.out (by simpa[tz0]using XS.mk (Nat.pos_of_ne_zero (λh=>HNE.out (kz5 h))) kp5)
theorem zPi{m:Nat}(HF:Hid (SynF E))(HI:Hid (IH E m)):Okk E 92 4 (-7) X1 (m+1):=by
 refine okK HF λW j I Q HP HQ HS hN hj hm=>?_;have hmf:=mkf;go_enter Tryz.func92,Tryz.ntmps92;go_wp2_with fail;refine mP HS 30 λg1 w1 HS1=>?_;go_wp2_with fail;refine mA HF HS1 HP 2 λg2 i2 w2 HS2 hi2=>?_;go_wp2_with fail;refine mX HF HS2 λw3 HS3=>?_;refine mS E i2 [46] (λhx4 hp4=>?_) λhn4=>?_
 .obtain⟨hw,c3,z3,i5,HS5,hi5⟩:=mI HS3 HS3 hN;go_wp2_with fail;refine mA HF HS5 HP 3 λg6 i6 w6 HS6 hi6=>?_;clear c3 z3 hw HS3 hx4 hp4 HS5;obtain⟨bc2,bc3⟩:=HS6.out.nfrom t2;have HB:Hid (∀W',Below w6.heap.size w6 W'->W'.cell? ⟨g1,2,none⟩=some (.int .i64 (j:Int))/\W'.cell? ⟨E.gr,3,none⟩=some (.int .i64 (i6:Int))):=Hd (λW' hb=>⟨(hb.cell (p:=⟨g1,2,none⟩) bc3).trans bc2,(HS6.out.ext hb).r.c3⟩);clear bc2 bc3;go_upto_region 6 with(fail)
  go_region_held3 (λW'=>W'.cell? ⟨g1,2,none⟩=some (.int .i64 (j:Int))/\W'.cell? ⟨E.gr,3,none⟩=some (.int .i64 (i6:Int))) (first|exact HB.out _ (bR _ _).drew|exact HB.out _ ((bR _ _).drew.alloc (nR _) _)|exact HB.out _ ((bR _ _).alloc (nR _) _).drew|exact HB.out _ ((((bR _ _).alloc (nR _) _).alloc Ob _).drew)) (fail)
  have HS7:=Hd ((St.close [] (((HS6.out.lit [g2,g6] _ (.cons (HS6.out.ok _ t1) (.cons (HS6.out.ok _ t0) (.nil _ _ _))) Ob).new (nodeC 29 (-1) j i6 (.slice (some ⟨w6.heap.size,0,none⟩) 2 2)))) ⟨Z,Z⟩ ⟨V,by simp[leastC]⟩).ext (bR _ _).drew);clear HB HS6;have HW:Hid (w6.heap.size+1=(w6.alloc (.cells (ptrsV [g2,g6]).toArray 41)).heap.size):=Hd Ob;obtain⟨gz,hgz⟩:∃gz,gz=(w6.alloc (.cells (ptrsV [g2,g6]).toArray 41)).heap.size:=⟨_,rfl⟩;rw[<-hgz]at HW HS7;rw[HW.out];clear HW hgz;generalize hwz:((w6.alloc (.cells #[ptrV g2,ptrV g6] 41)).alloc (nodeC 29 (-1) j i6 (.slice (some ⟨w6.heap.size,0,none⟩) 2 2))).drew=wz at *;have HSz:Hid (St E wz i6 _):=Hd (hwz▸HS7.out);clear hwz HS7;go_wp2_with fail;refine mX HF HSz λw8 HS8=>?_;refine mS E i6 [91] (λhx9 hp9=>?_) λhn9=>?_
  .go_wp2_with fail;refine mNk (zCq HF HI HS8 yBc (λW' i J h1 h2=>(HI.out.typ _ _ _ h2 (by have:=h2.r.le;omega)).mono λ_ _ h=>h.weak V) Z) HP 5 λg11 k11 s11 p11 i11 w11 HS11 hi11 kp11=>?_;clear hx9 hp9 HS8;go_wp2_with fail;refine mC HF [_,_,_,_] HS11 (gs2 HS11) (λw12 HS12=>?_);go_wp2_with fail;exact rK HQ HS12.out.tl.tl.tl.tl (by simpa[tz0]using zCa (yBg (textZ E 26 (i5:Int)) (zIg (textZ E 26 (j:Int)))) (kp11))
  go_wp2_with fail;exact rK HQ HS8.out.pop2.pop2.pop2.pop2 (by simpa[tz0]using yBg (textZ E 26 (i5:Int)) (zIg (textZ E 26 (j:Int))))
 go_wp2_with fail;refine mX HF HS3 λw13 HS13=>?_;refine mS E i2 [91] (λhx14 hp14=>?_) λhn14=>?_
 .go_wp2_with fail;refine mNk (zCq HF HI HS13 yBc (λW' i J h1 h2=>(HI.out.typ _ _ _ h2 (by have:=h2.r.le;omega)).mono λ_ _ h=>h.weak V) Z) HP 3 λg16 k16 s16 p16 i16 w16 HS16 hi16 kp16=>?_;clear hn4 hx14 hp14 HS13;go_wp2_with fail;refine mC HF [_,_] HS16 (gs2 HS16) (λw17 HS17=>?_);go_wp2_with fail;exact rK HQ HS17.out.tl.tl (by simpa[tz0]using zCa (zIg (textZ E 26 (j:Int))) (kp16))
 go_wp2_with fail;exact rK HQ HS13.out.pop2.pop2 (zIg (textZ E 26 (j:Int)))
end
section
variable {E:SynE}
theorem yEx{m:Nat}(HF:Hid (SynF E))(HI:Hid (IH E m)){W:World}{j:Nat}{I:List Item}{n:Nat}{f:Int}(HS:Hid (St E W j (.raw n (nodeC 0 (-1) f 0 (.slice none 0 0))::.row (.slice none 0 0) [] []::I)))(hm:64*(E.N-j)+12<m+1):Calls Tryz.prog 93 #[ptrV E.gr,ptrV n] W (PNm E I n (ptrV n) j (1) (λq=>∃k x y,q=(k,x)::y/\simK k=false)):=by
 refine nnK HF HS λQ HP HQ hN hj=>?_;have hmf:=mkf;go_enter Tryz.func93,Tryz.ntmps93;obtain⟨c0,c1,c4,cz,cn,cn2⟩:=HS.out.ncell t0;have HS1:=Hd (HS.out.setK [] 43);go_wp2_with fail;refine mM HF HS1 [93] (λi2 w2 HS2 hi2=>?_) λw2 HS2=>?_
 .clear c0 c1 c4 cz cn cn2 HS HS1;go_wp2_with fail;refine mEk (jH HF HI HS2 V Z Ob Z) HP 0 λk3 s3 p3 i3 w3 HS3 hi3 kp3=>?_;go_wp2_with fail;exact rM HQ HS3.out (by obtain⟨p,hp,rfl⟩:=kp3;exact⟨_,_,_,rfl,V⟩)
 clear c0 c1 c4 cz cn cn2 HS HS1;go_wp2_with fail;refine mM HF HS2 [46,46,46] (λi4 w4 HS4 hi4=>?_) λw4 HS4=>?_
 .obtain⟨c0,c1,c4,cz,cn,cn2⟩:=HS4.out.ncell t0;have HS5:=Hd (HS4.out.setK [] 42);go_wp2_with fail;refine mW HF HS5 [93] HP 2 λi6 w6 HS6 hi6=>?_;clear c0 c1 c4 cz cn cn2 HS4 HS5;go_wp2_with fail;refine mEk (jH HF HI HS6 V Z Ob Z) HP 0 λk7 s7 p7 i7 w7 HS7 hi7 kp7=>?_;go_wp2_with fail;exact rM HQ HS7.out (by obtain⟨p,hp,rfl⟩:=kp7;exact⟨_,_,_,rfl,V⟩)
 obtain⟨c0,c1,c4,cz,cn,cn2⟩:=HS4.out.ncell t0;have HS8:=Hd (HS4.out.setK [] 41);go_upto_region 3 with(fail);have HS9d:=Hd (HS8.out.ext (bR _ _).drew);have hS0:(λX:World=>X.cell? ⟨n,4,none⟩=some (.slice none 0 0)) (World.drew (w4.setCell ⟨n,0,none⟩ (.int .u8 41))):=(HS8.out.ncell t0).2.2.1;clear c0 c1 c4 cz cn cn2 HS4 HS8;refine zV (S:=λX=>X.cell? ⟨n,4,none⟩=some (.slice none 0 0)) [13] Oa ?_;generalize World.drew (w4.setCell ⟨n,0,none⟩ (.int .u8 41))=wd at *;refine tF 0 11 (λ_=>hS0) ?_;refine tF 1 12 (λ_=>hS0) ?_;refine tF 2 13 (λ_=>hS0) ?_;refine tF 3 14 (λ_=>hS0) ?_;refine tU [10,13] 4 15 hS0 ?_;refine tF 5 16 (λ_=>hS0) ?_;refine tF 6 17 (λ_=>hS0) ?_;refine tF 7 18 (λ_=>hS0) ?_;refine rU 8 (some 19) λK hK=>?_;go_simp;refine mY HI.out.expr zAl HS9d HP 2 λg10 k10 s10 p10 i10 w10 HS10 hi10=>?_;obtain⟨v',w10a,hr,hs4,a4,n4,c4,rfl⟩:=St.append1 [_,_] HS10.out (.head _) (by(try simp);try omega);have HRUN:=Hd hr;have HS10a:=Hd hs4;have hS1:(λX:World=>X.cell? ⟨n,4,none⟩=some (.slice none 0 0)) w10:=(HS10.out.ncell t1).2.2.1;have hS2:(λX:World=>X.cell? ⟨n,4,none⟩=some (.slice none 0 0)) (w10.alloc (.cells #[ptrV g10] 41)):=((HS10.out.ext ((bR _ _).alloc (nR _) _)).ncell t1).2.2.1;have hS3:(λX:World=>X.cell? ⟨n,4,none⟩=some (.slice none 0 0)) w10a:=(hs4.ncell t1).2.2.1;have HZ:=Hd (hs4.ncell t1);clear hr hs4 hS0 HS9d;(try dsimp only)
 refine hK.out _ _ (λ_=>hS1) ?_;clear hK K;(try simp only[qA,qL,qZ,qS])
 refine rU 9 (some 20) λK hK=>?_;go_simp;refine hK.out _ _ (λ_=>hS2) ?_;clear hK K;(try simp only[qA,qL,qZ,qS])
 refine rU 10 (some 21) λK hK=>?_;refine xT _ _ _ _ HRUN.out rfl rfl rfl rfl ?_;refine hK.out _ _ (λ_=>hS3) ?_;clear hK K;(try simp only[qA,qL,qZ,qS])
 refine tF 11 22 (λ_=>hS3) ?_;refine tF 12 23 (λ_=>hS3) ?_;obtain⟨c0,c1,c4x,cz,cn,cn2⟩:=HZ.out;refine rU 13 none λK hK=>?_;go_simp;refine hK.out _ _ (λh=>Bool.noConfusion (h.symm.trans (by kernel_rfl:_=false))) ?_;clear hK K;(try simp only[qA,qL,qZ,qS])
 refine yK Oa ?_ _;clear hS1 hS2 hS3 HRUN HZ c0 c1 c4x cz;have HS11:=Hd (HS10a.out.setV [_] (.slice a4 n4 c4));clear HS10a;have hwz:∃wz,wz=w10a.setCell ⟨n,4,none⟩ (.slice a4 n4 c4):=⟨_,rfl⟩;obtain⟨wz11,hwz⟩:=hwz;rw[<-hwz]at HS11 ⊢;clear hwz;go_wp2_with fail;refine mW HF HS11 [93] HP 3 λi12 w12 HS12 hi12=>?_;have HSt:=Hd HS12.out.tl;clear HS12;go_wp2_with fail;refine mEk (jH HF HI HSt V Z Ob Z) HP 0 λk13 s13 p13 i13 w13 HS13 hi13 kp13=>?_;go_wp2_with fail;exact rM HQ HS13.out (by obtain⟨p,hp,rfl⟩:=kp13;exact⟨_,_,_,rfl,V⟩)
theorem zSl{m:Nat}(HF:Hid (SynF E))(HI:Hid (IH E m)):Okk E 55 5 (-7) X1 (m+1):=by
 refine okK HF λW j I Q HP HQ HS hN hj hm=>?_;have hmf:=mkf;go_enter Tryz.func55,Tryz.ntmps55;go_wp2_with fail;refine mP HS 0 λg1 w1 HS1=>?_;have c3:=HS1.out.r.c3;have z3:=HS1.out.r.z 3;go_wp2_with fail;refine mQ (xS HF.out HS1.out.r ((j:Int)) Z) HS1 λw2 HS2=>?_;clear c3 z3 HS1;cases hx3:namedB E (j:Int)with
 |true =>
  go_wp2_with fail;refine mOk HI.out.typeName HS2 HP 2 λg4 k4 s4 p4 i4 w4 HS4 hi4 kp4=>?_;clear hx3 HS2;go_wp2_with fail;exact rK HQ HS4.out.pop2.pop2 kp4
 |false =>
  go_wp2_with fail;refine mX HF HS2 λw5 HS5=>?_;refine mS E j [42] (λhx6 hp6=>?_) λhn6=>?_
  .obtain⟨hw,c3,z3,i7,HS7,hi7⟩:=mI HS5 HS5 hN;obtain⟨c0,c1,c4,cz,cn,cn2⟩:=HS5.out.ncell t0;have HS8:=Hd (HS7.out.setK [] 35);go_wp2_with fail;refine mEk (jH HF HI HS8 V Z Ob Z) HP 0 λk9 s9 p9 i9 w9 HS9 hi9 kp9=>?_;clear c3 z3 hw HS5 hx3 hx6 hp6 c0 c1 c4 cz cn cn2 HS7 HS8;go_wp2_with fail;exact rK HQ HS9.out (by obtain⟨p,hp,rfl⟩:=kp9;simpa[tz0]using yBf hp)
  refine mS E j [40] (λhx10 hp10=>?_) λhn10=>?_
  .obtain⟨hw,c3,z3,i11,HS11,hi11⟩:=mI HS5 HS5 hN;obtain⟨c0,c1,c4,cz,cn,cn2⟩:=HS5.out.ncell t0;have HS12:=Hd (HS11.out.setK [] 28);go_wp2_with fail;refine mOk HI.out.typ HS12 HP 2 λg13 k13 s13 p13 i13 w13 HS13 hi13 kp13=>?_;clear c3 z3 hw HS5 hx3 hn6 hx10 hp10 c0 c1 c4 cz cn cn2 HS11 HS12;go_wp2_with fail;refine mW HF HS13 [41] HP 3 λi14 w14 HS14 hi14=>?_;go_wp2_with fail;refine mC HF [_] HS14 (gs1 HS14) (λw15 HS15=>?_);go_wp2_with fail;exact rK HQ HS15.out.tl (by simpa[tz0]using zUw (kp13))
  refine mS E j [91] (λhx16 hp16=>?_) λhn16=>?_
  .obtain⟨hw,c3,z3,i17,HS17,hi17⟩:=mI HS5 HS5 hN;go_wp2_with fail;refine mEk (yEx HF HI HS17 Z) HP 0 λk18 s18 p18 i18 w18 HS18 hi18 kp18=>?_;clear c3 z3 hw HS5 hx3 hn6 hn10 hx16 hp16 HS17;go_wp2_with fail;exact rK HQ HS18.out (by obtain⟨k,⟨x,y⟩,z,rfl,hz⟩:=kp18;exact fS hz)
  refine mS E j [109,97,112] (λhx19 hp19=>?_) λhn19=>?_
  .obtain⟨hw,c3,z3,i20,HS20,hi20⟩:=mI HS5 HS5 hN;obtain⟨c0,c1,c4,cz,cn,cn2⟩:=HS5.out.ncell t0;have HS21:=Hd (HS20.out.setK [] 44);go_wp2_with fail;refine mW HF HS21 [91] HP 2 λi22 w22 HS22 hi22=>?_;clear c3 z3 hw HS5 hx3 hn6 hn10 hn16 hx19 hp19 c0 c1 c4 cz cn cn2 HS20 HS21;go_wp2_with fail;refine mOk HI.out.typ HS22 HP 2 λg23 k23 s23 p23 i23 w23 HS23 hi23 kp23=>?_;go_wp2_with fail;refine mW HF HS23 [93] HP 3 λi24 w24 HS24 hi24=>?_;obtain⟨c0,c1,c4,cz,cn,cn2⟩:=HS24.out.ncell t1;obtain⟨v',wa,hr,hs4,a4,n4,c4x,rfl⟩:=St.append1 [_,_] HS24.out t0 Ob;have HRUN:=Hd hr;obtain⟨d0,d1,d4,dz,-,-⟩:=hs4.ncell t1;have HSa:=Hd (hs4.setV [_] (.slice a4 n4 c4x));clear hr hs4;go_upto_region 48 with(at_builtin;refine zE rfl _ _ _ _ HRUN.out rfl rfl rfl rfl ?_);clear HRUN d0 d1 d4 dz c0 c1 c4 cz cn cn2 HS24;generalize wa.setCell ⟨g1,4,none⟩ (.slice a4 n4 c4x)=wz at *;have HSt:=Hd HSa.out.tl;clear HSa;go_wp2_with fail;refine mEk (jH HF HI HSt V Z Ob Z) HP 0 λk25 s25 p25 i25 w25 HS25 hi25 kp25=>?_;go_wp2_with fail;exact rK HQ HS25.out (by obtain⟨p,hp,rfl⟩:=kp25;exact fS)
  refine mS E j [99,104,97,110] (λhx26 hp26=>?_) λhn26=>?_
  .obtain⟨hw,c3,z3,i27,HS27,hi27⟩:=mI HS5 HS5 hN;obtain⟨c0,c1,c4,cz,cn,cn2⟩:=HS5.out.ncell t0;obtain⟨c2,-⟩:=HS5.out.nfrom t0;have HS28:=Hd (HS27.out.setK [] 45);have HS29:=Hd (HS28.out.setW [] (j:Int));go_wp2_with fail;refine mM HF HS29 [60,45] (λi30 w30 HS30 hi30=>?_) λw30 HS30=>?_
   .clear c3 z3 hw HS5 hx3 hn6 hn10 hn16 hn19 hx26 hp26 c0 c1 c4 cz cn cn2 c2 HS27 HS28 HS29;go_wp2_with fail;refine mEk (jH HF HI HS30 V Z Ob Z) HP 0 λk31 s31 p31 i31 w31 HS31 hi31 kp31=>?_;go_wp2_with fail;exact rK HQ HS31.out (by obtain⟨p,hp,rfl⟩:=kp31;exact fS)
   clear c3 z3 hw HS5 hx3 hn6 hn10 hn16 hn19 hx26 hp26 c0 c1 c4 cz cn cn2 c2 HS27 HS28 HS29;go_wp2_with fail;refine mEk (jH HF HI HS30 V Z Ob Z) HP 0 λk32 s32 p32 i32 w32 HS32 hi32 kp32=>?_;go_wp2_with fail;exact rK HQ HS32.out (by obtain⟨p,hp,rfl⟩:=kp32;exact fS)
  refine mS E j [60,45] (λhx33 hp33=>?_) λhn33=>?_
  .obtain⟨hw,c3,z3,i34,HS34,hi34⟩:=mI HS5 HS5 hN;obtain⟨c0,c1,c4,cz,cn,cn2⟩:=HS5.out.ncell t0;obtain⟨c2,-⟩:=HS5.out.nfrom t0;have HS35:=Hd (HS34.out.setK [] 45);have HS36:=Hd (HS35.out.setW [] (j:Int));go_wp2_with fail;refine mW HF HS36 [99,104,97,110] HP 2 λi37 w37 HS37 hi37=>?_;clear c3 z3 hw HS5 hx3 hn6 hn10 hn16 hn19 hn26 hx33 hp33 c0 c1 c4 cz cn cn2 c2 HS34 HS35 HS36;go_wp2_with fail;refine mEk (jH HF HI HS37 V Z Ob Z) HP 0 λk38 s38 p38 i38 w38 HS38 hi38 kp38=>?_;go_wp2_with fail;exact rK HQ HS38.out (by obtain⟨p,hp,rfl⟩:=kp38;exact fS)
  refine mS E j [102,117,110,99] (λhx39 hp39=>?_) λhn39=>?_
  .obtain⟨hw,c3,z3,i40,HS40,hi40⟩:=mI HS5 HS5 hN;obtain⟨c0,c1,c4,cz,cn,cn2⟩:=HS5.out.ncell t0;have HS41:=Hd (HS40.out.setK [] 46);go_wp2_with fail;refine mO HI.out.signature HS41 HP 2 λg42 k42 s42 p42 i42 w42 HS42 hi42=>?_;clear c3 z3 hw HS5 hx3 hn6 hn10 hn16 hn19 hn26 hn33 hx39 hp39 c0 c1 c4 cz cn cn2 HS40 HS41;go_wp2_with fail;refine mC HF [_] HS42 (gs1 HS42) (λw43 HS43=>?_);go_wp2_with fail;exact rK HQ HS43.out.tl fS
  refine mS E j [115,116,114,117,99,116] (λhx44 hp44=>?_) λhn44=>?_
  .obtain⟨hw,c3,z3,i45,HS45,hi45⟩:=mI HS5 HS5 hN;obtain⟨c0,c1,c4,cz,cn,cn2⟩:=HS5.out.ncell t0;have HS46:=Hd (HS45.out.setK [] 47);go_wp2_with fail;refine mEk (zFx HF HI HS46 V Z 20 V yBe (λW' i J h1 h2=>(HI.out.field _ _ _ h2 (by have:=h2.r.le;omega)).mono λ_ _ h=>h.weak V) Z) HP 0 λk47 s47 p47 i47 w47 HS47 hi47 kp47=>?_;clear c3 z3 hw HS5 hx3 hn6 hn10 hn16 hn19 hn26 hn33 hn39 hx44 hp44 c0 c1 c4 cz cn cn2 HS45 HS46;go_wp2_with fail;exact rK HQ HS47.out (by obtain⟨⟨x,y⟩,z,rfl⟩:=kp47;exact fS)
  refine mS E j [105,110,116,101,114,102,97,99,101] (λhx48 hp48=>?_) λhn48=>?_
  .obtain⟨hw,c3,z3,i49,HS49,hi49⟩:=mI HS5 HS5 hN;obtain⟨c0,c1,c4,cz,cn,cn2⟩:=HS5.out.ncell t0;have HS50:=Hd (HS49.out.setK [] 48);go_wp2_with fail;refine mEk (zFx HF HI HS50 V Z 23 V yEz (λW' i J h1 h2=>(HI.out.elem _ _ _ h2 (by have:=h2.r.le;omega)).mono λ_ _ h=>h.weak V) Z) HP 0 λk51 s51 p51 i51 w51 HS51 hi51 kp51=>?_;clear c3 z3 hw HS5 hx3 hn6 hn10 hn16 hn19 hn26 hn33 hn39 hn44 hx48 hp48 c0 c1 c4 cz cn cn2 HS49 HS50;go_wp2_with fail;exact rK HQ HS51.out (by obtain⟨⟨x,y⟩,z,rfl⟩:=kp51;exact fS)
  go_wp2_with fail;exact mF HS5 HP 2
end
section
variable {E:SynE}
theorem zKb{m:Nat}(HF:Hid (SynF E))(HI:Hid (IH E m)){W:World}{j:Nat}{I:List Item}{rb:Nat}(HS:Hid (St E W j I))(hb:.raw rb (.cells #[ptrV E.gr] 44 (0,0))∈I)(hm:64*(E.N-j)+7<m+1):Calls Tryz.prog 221 #[ptrV rb] W (PNd E I j (-15)):=by
 refine pnI HF HS λQ HP HQ hN hj=>?_;have hmf:=mkf;go_enter Tryz.func221,Tryz.ntmps221;have b_rb:=HS.out.box hb;go_upto_region 1 with(fail);have HS1d:=Hd (HS.out.ext (bR _ _).drew);have hS0:(λX:World=>X.cell? ⟨rb,0,none⟩=some (ptrV E.gr)) (World.drew W):=HS.out.box hb;clear b_rb HS;refine zV (S:=λX=>X.cell? ⟨rb,0,none⟩=some (ptrV E.gr)) [] Oa ?_;generalize World.drew W=wd at *;refine tU [] 0 3 hS0 ?_;refine tU [] 1 4 hS0 ?_;refine tU [] 2 5 hS0 ?_;refine tF 3 6 (λ_=>hS0) ?_;refine rU 4 (some 7) λK hK=>?_;go_simp;refine mR1 HF HS1d [123] [44] [125] HI.out.element zSr HP 0 λa2 n2 c2 s2 p2 i2 w2 HS2 hi2=>?_;have hS2:(λX:World=>X.cell? ⟨rb,0,none⟩=some (ptrV E.gr)) w2:=HS2.out.box (.tail _ hb);(try dsimp only)
 refine hK.out _ _ (λ_=>hS2) ?_;clear hK K;(try simp only[qA,qL,qZ,qS])
 refine rU 5 (some 8) λK hK=>?_;go_simp;refine mD HF HS2 12 λg3 w3 HS3=>?_;have hS3:(λX:World=>X.cell? ⟨rb,0,none⟩=some (ptrV E.gr)) w3:=HS3.out.box (.tail _ hb);(try dsimp only)
 refine hK.out _ _ (λ_=>hS3) ?_;clear hK K;(try simp only[qA,qL,qZ,qS])
 refine tF 6 2 (λ_=>hS3) ?_;refine yK Oa ?_ _;clear hS0;have b_rb:=HS3.out.box (.tail _ hb);go_wp2_with fail;refine mW HF HS3 [125] HP 1 λi4 w4 HS4 hi4=>?_;clear b_rb HS3;have b_rb:=HS4.out.box (.tail _ hb);go_wp2_with fail;exact rQ HQ HS4.out
theorem zPj{m:Nat}(HF:Hid (SynF E))(HI:Hid (IH E m)):Ok E 184 7 (-15) (m+1):=by
 refine okI HF λW j I Q HP HQ HS hN hj hm=>?_;have hmf:=mkf;go_enter Tryz.func184,Tryz.ntmps184;have HS0:=Hd (HS.out.new (.cells #[ptrV E.gr] 44));clear HS;go_upto_region 1 with(fail);generalize W.alloc (.cells #[ptrV E.gr] 44)=wb at *;generalize W.heap.size=rb at *;have b_rb:=HS0.out.box t0;go_wp2_with fail;refine mN (vJ (PNd.tightQ _ _ _) (FnV.clos (k:=221) Tryz.func221 Oa rfl #[ptrV rb]) HS0.out (λW' h'=>zKb HF HI (Hd h') t0 Z)) HP 1 λg1 k1 s1 p1 i1 w1 HS1 hi1=>?_;clear b_rb HS0;have b_rb:=HS1.out.box t1;go_wp2_with fail;exact rQ HQ HS1.out.pop2
end
end Go.Proofs.YtfpjdpdmgceciaaGreatDoor
