/- Layer 12: lists of nodes. -/
import Derived.Test.YtfpjdpdmgceciaaGreatDoorUntilTg
import Derived.Test.YtfpjdpdmgceciaaGreatDoorCoreTg
import Derived.Test.YtfpjdpdmgceciaaGreatDoorPsBTg
import Derived.Deep.RegionHeld3
namespace Go.Proofs.YtfpjdpdmgceciaaGreatDoor
set_option maxRecDepth 100000
set_option maxHeartbeats 32000000
set_option linter.all false
attribute [local irreducible] Calls
attribute [local irreducible] wpStill
open Go.RowKit
section
variable {E:SynE} {W W':World} {j:Nat} {I:List Item}
theorem St.swap{x y:Item}(h:St E W j (x::y::I)):St E W j (y::x::I):=by
 have hm:∀z,z∈y::x::I->z∈x::y::I:=λz hz=>by
  simp only[List.mem_cons]at hz ⊢;rcases hz with h|h|h
  .exact Or.inr (Or.inl h)
  .exact Or.inl h
  .exact Or.inr (Or.inr h)
 have hm':∀z,z∈x::y::I->z∈y::x::I:=λz hz=>by
  simp only[List.mem_cons]at hz ⊢;rcases hz with h|h|h
  .exact Or.inr (Or.inl h)
  .exact Or.inl h
  .exact Or.inr (Or.inr h)
 have h3:=List.pairwise_cons.1 h.nd;have h4:=List.pairwise_cons.1 h3.2;exact⟨h.r,λz hz=>(h.ok z (hm z hz)).to (λb hf=>⟨rfl,hf.1,hf.2.1,λu hu=>hf.2.2 u (hm u hu)⟩) (λ_ _ _=>rfl),λz hz=>h.gt z (hm z hz),List.pairwise_cons.2 ⟨λz hz b e e'=>by
  rcases List.mem_cons.1 hz with rfl|hz
  .exact h3.1 y (List.mem_cons_self ..) b e' e
  .exact h4.1 z hz b e e',List.pairwise_cons.2 ⟨λz hz b e=>h3.1 z (List.mem_cons_of_mem _ hz) b e,h4.2⟩⟩⟩
@[irreducible] def PD(E:SynE)(I:List Item)(j k:Nat)(gs:List Nat)(ps:List Prt)(e:Ending)(W':World):Prop :=
 ∃g,e=.returned (ptrV g)/\St E W' j (.done g k gs ps::I)
theorem St.kid{v:Value}{gs:List Nat}{ps:List Prt}(h:St E W j I)(hm:.row v gs ps∈I){i:Nat}(hi:i<gs.length):∃b c,v=.slice (some ⟨b,0,none⟩) gs.length c/\gs.length<=c/\W.cell? ⟨b,i,none⟩=some (ptrV gs[i])/\∃k ks p,Good E W (FrB E W I) gs[i] k ks p/\p.length<=ps.length:=by
 obtain⟨h1,h2⟩:NRow W v gs/\GoodS E W (FrB E W I) gs ps:=h.ok _ hm;rcases h1.2 with⟨_,hn⟩|⟨g,cap,cur,rfl,_,hh,hnc,_⟩
 .omega
 .refine⟨g,cap,rfl,hnc,?_,h2.at hi⟩;rw[h1.cellAt i Z];unfold ptrsV;simp[hi]
theorem GoodS.nil_inv{F:Nat->Prop}{ps:List Prt}(h:GoodS E W F [] ps):ps=[]:=by
 obtain⟨pss,a,b,_⟩:=h;rw[b,List.eq_nil_of_length_eq_zero a];rfl
theorem yAw(F:SynF E){v:Value}{gs:List Nat}{ps:List Prt}(h:St E W j (.row v gs ps::I))(k:Nat)(hk:k<256/\leastC k=0)(hl:gs.length<=1000000000):Calls Tryz.prog 63 #[ptrV E.gr,.int .u8 (k:Int),v] W (PD E I j k gs ((k,(gs.length:Int),textZ E k (-1))::ps)):=by
 have C:=Hd (zPk h k hk.1);obtain⟨a,m,c,hv⟩:=zI (h.ok (.row v gs ps) Ob).1;have hN:(-1:Int)<E.N:=Z;rcases Nat.eq_zero_or_pos gs.length with h0|h0
 .have hg:=List.eq_nil_of_length_eq_zero h0;subst hg;have hp:ps=[]:=GoodS.nil_inv (E:=E) (W:=W) (F:=FrB E W (.row v [] ps::I)) (h.ok (.row v [] ps) Ob).2;subst hp;have hm:m=0:=by
   rcases(h.ok (.row v [] []) Ob).1.2 with⟨e,_⟩|⟨g,cap,cur,e,_⟩
   .rw[hv]at e;cases e;rfl
   .rw[hv]at e;cases e;rfl
  subst hm;have HQ:Hid (∀W' g,St E W' j (.raw g (nodeC k (-1) j j (.slice none 0 0))::.row v [] []::I)->PD E I j k [] ((k,(([]:List Nat).length:Int),textZ E k (-1))::[]) (.returned (ptrV g)) W'):=Hd (λW' g h'=>by
   unfold PD;exact⟨g,rfl,(St.tl h'.swap).done0 ⟨Z,hN⟩ hk⟩)
  generalize PD E I j k [] ((k,(([]:List Nat).length:Int),textZ E k (-1))::[])=Q at *;clear h F;subst hv;go_enter Tryz.func63,Tryz.ntmps63;go_wp2_with fail;refine C.out.mono ?_;intro e w1 h1;unfold PB at h1;obtain⟨g,rfl,hs⟩:=h1;have HS:=Hd hs;clear hs;go_wp2_with fail;exact HQ.out _ _ HS.out
 .have HQ:Hid (∀W' g f t,St E W' j (.raw g (nodeC k (-1) f t v)::.row v gs ps::I)->PD E I j k gs ((k,(gs.length:Int),textZ E k (-1))::ps) (.returned (ptrV g)) W'):=Hd (λW' g f t h'=>by
   unfold PD;exact⟨g,rfl,St.close [] h' ⟨Z,hN⟩ ⟨hk.1,by rw[hk.2];exact Nat.zero_le _⟩⟩)
  generalize PD E I j k gs ((k,(gs.length:Int),textZ E k (-1))::ps)=Q at *;have hm:m=gs.length:=by
   rcases(h.ok (.row v gs ps) Ob).1.2 with⟨e,_⟩|⟨g,cap,cur,e,_⟩
   .omega
   .rw[hv]at e;cases e;rfl
  clear h F;subst hv;subst hm;have hpos:(0:Int)<gs.length:=Z;have hpn:0<gs.length:=h0;go_enter Tryz.func63,Tryz.ntmps63;go_wp2_with fail;refine C.out.mono ?_;intro e w1 h1;unfold PB at h1;obtain⟨g,rfl,hs⟩:=h1;obtain⟨b,cc,hv1,hcc,k0,k1,ks1,p1,G1,_⟩:=hs.kid (v:=.slice a gs.length c) (gs:=gs) (ps:=ps) Ob (i:=0) h0;obtain⟨b',cc',hv2,hcc',k2,k3,ks3,p3,G3,_⟩:=hs.kid (v:=.slice a gs.length c) (gs:=gs) (ps:=ps) Ob (i:=gs.length-1) Z;simp only[Value.slice.injEq,true_and]at hv1 hv2;obtain⟨rfl,rfl⟩:=hv1;obtain⟨hvb,rfl⟩:=hv2;simp only[Option.some.injEq,Addr.mk.injEq,and_true]at hvb;subst hvb;obtain⟨x1,f1,t1,v1,_,F1,H1,_⟩:=G1.open';obtain⟨x3,f3,t3,v3,_,F3,H3,_⟩:=G3.open';have hraw:=hs.rawAt (b:=g) (o:=nodeC k (-1) j j (.slice none 0 0)) Ob;have n1:gs[0]≠g:=λe=>F1.2.2 (.raw g (nodeC k (-1) j j (.slice none 0 0))) Ob (by rw[e];rfl)
  have n3:gs[gs.length-1]≠g:=λe=>F3.2.2 (.raw g (nodeC k (-1) j j (.slice none 0 0))) Ob (by rw[e];rfl)
  have HS:=Hd ((((hs.put [] 2 (.int .i64 f1)).put [] 3 (.int .i64 t3)).put [] 4 (.slice (some ⟨b,0,none⟩) gs.length c)).ext (bR _ _).drew);have a1:w1.cell? ⟨gs[0],2,none⟩=some (.int .i64 f1):=by simp[World.cell?,H1]
  have a3:w1.cell? ⟨gs[gs.length-1],3,none⟩=some (.int .i64 t3):=by simp[World.cell?,H3]
  have g2:w1.cell? ⟨g,2,none⟩=some (.int .i64 j):=by simp[World.cell?,hraw]
  have g3:w1.cell? ⟨g,3,none⟩=some (.int .i64 j):=by simp[World.cell?,hraw]
  have g4:w1.cell? ⟨g,4,none⟩=some (.slice none 0 0):=by simp[World.cell?,hraw]
  have gz:∀i,w1.frozen? ⟨g,i,none⟩=false:=by intro i;simp[World.frozen?,hraw]
  have hw1:IntKind.i64.wrap ((gs.length:Int)-1)=((gs.length-1:Nat):Int):=wI Z;have hlt:((gs.length-1:Nat):Int)<gs.length:=Z;have hlt2:gs.length-1<gs.length:=Z;generalize gs[0]=y1 at *;generalize gs[gs.length-1]=y3 at *;generalize gs.length-1=q at *;clear hs G1 G3 H1 H3 F1 F3 hraw;go_wp2_with fail
  -- R3
  have hS0:(λX:World=>X.cell? ⟨b,0,none⟩=some (ptrV y1)/\X.cell? ⟨y1,2,none⟩=some (.int .i64 f1)/\X.cell? ⟨b,q,none⟩=some (ptrV y3)/\X.cell? ⟨y3,3,none⟩=some (.int .i64 t3)) w1.drew:=⟨k0,a1,k2,a3⟩;refine zV (S:=λX=>X.cell? ⟨b,0,none⟩=some (ptrV y1)/\X.cell? ⟨y1,2,none⟩=some (.int .i64 f1)/\X.cell? ⟨b,q,none⟩=some (ptrV y3)/\X.cell? ⟨y3,3,none⟩=some (.int .i64 t3)) [21] Oa ?_;clear k0 a1 k2 a3;refine tF 0 14 (λ_=>hS0) ?_;refine tF 1 15 (λ_=>hS0) ?_;refine tF 2 16 (λ_=>hS0) ?_;refine tF 3 17 (λ_=>hS0) ?_;refine tF 4 18 (λ_=>hS0) ?_;refine tU [6,7,8,21] 5 19 hS0 ?_;refine tF 6 20 (λ_=>hS0) ?_;refine tF 7 21 (λ_=>hS0) ?_;refine tU [21] 8 22 hS0 ?_;refine tF 9 23 (λ_=>hS0) ?_;refine tF 10 24 (λ_=>hS0) ?_;refine tF 11 25 (λ_=>hS0) ?_;refine tF 12 26 (λ_=>hS0) ?_;refine tF 13 27 (λ_=>hS0) ?_;refine tU [15,16,17,21] 14 28 hS0 ?_;refine tF 15 29 (λ_=>hS0) ?_;refine tF 16 30 (λ_=>hS0) ?_;refine tU [21] 17 31 hS0 ?_;refine tF 18 32 (λ_=>hS0) ?_;refine tF 19 33 (λ_=>hS0) ?_;refine tF 20 34 (λ_=>hS0) ?_;refine rU 21 none λK hK=>?_;go_simp;refine hK.out _ _ (λh=>Bool.noConfusion (h.symm.trans (by kernel_rfl:_=false))) ?_;clear hK K;(try simp only[qA,qL,qZ,qS])
  refine rU 22 (some 35) λK hK=>?_;go_simp;refine hK.out _ _ (λh=>Bool.noConfusion (h.symm.trans (by kernel_rfl:_=false))) ?_;clear hK K;(try simp only[qA,qL,qZ,qS])
  refine rU 23 (some 36) λK hK=>?_;go_simp;refine hK.out _ _ (λh=>Bool.noConfusion (h.symm.trans (by kernel_rfl:_=false))) ?_;clear hK K;(try simp only[qA,qL,qZ,qS])
  refine rU 24 none λK hK=>?_;go_simp;refine hK.out _ _ (λh=>Bool.noConfusion (h.symm.trans (by kernel_rfl:_=false))) ?_;clear hK K;(try simp only[qA,qL,qZ,qS])
  refine rU 25 (some 37) λK hK=>?_;go_simp;refine hK.out _ _ (λh=>Bool.noConfusion (h.symm.trans (by kernel_rfl:_=false))) ?_;clear hK K;(try simp only[qA,qL,qZ,qS])
  refine rU 26 (some 38) λK hK=>?_;go_simp;refine hK.out _ _ (λh=>Bool.noConfusion (h.symm.trans (by kernel_rfl:_=false))) ?_;clear hK K;(try simp only[qA,qL,qZ,qS])
  refine rU 27 none λK hK=>?_;go_simp;refine hK.out _ _ (λh=>Bool.noConfusion (h.symm.trans (by kernel_rfl:_=false))) ?_;clear hK K;(try simp only[qA,qL,qZ,qS])
  refine yK Oa ?_ _
  -- R3 END
  go_wp2_with fail;exact HQ.out _ _ _ _ HS.out
end
def lvZ(x:List UInt8):Nat :=
 if x==[124,124]then 1 else if x==[38,38]then 2 else if x==[61,61] || x==[33,61] || x==[60] || x==[60,61] || x==[62] || x==[62,61]then 3 else if x==[43] || x==[45] || x==[124] || x==[94]then 4 else if x==[42] || x==[47] || x==[37] || x==[60,60] || x==[62,62] || x==[38] || x==[38,94]then 5 else 0
def assignsZ(x:List UInt8):Bool:=x==[61] || x==[58,61] || x==[43,61] || x==[45,61] || x==[42,61] || x==[47,61] || x==[37,61] || x==[38,61] || x==[124,61] || x==[94,61] || x==[60,60,61] || x==[62,62,61] || x==[38,94,61]
theorem zSn{E:SynE}{j:Nat}(h:assignsZ (wordZ E j).toList=true):j+1<=E.N:=zBk (by intro e;rw[e]at h;cases h)
theorem zPm(x:List UInt8):x=[124,124]\/x=[38,38]\/x=[61,61]\/x=[33,61]\/x=[60]\/x=[60,61]\/x=[62]\/x=[62,61]\/x=[43]\/x=[45]\/x=[124]\/x=[94]\/x=[42]\/x=[47]\/x=[37]\/x=[60,60]\/x=[62,62]\/x=[38]\/x=[38,94]\/((x==[124,124])=false/\(x==[38,38])=false/\(x==[61,61])=false/\(x==[33,61])=false/\(x==[60])=false/\(x==[60,61])=false/\(x==[62])=false/\(x==[62,61])=false/\(x==[43])=false/\(x==[45])=false/\(x==[124])=false/\(x==[94])=false/\(x==[42])=false/\(x==[47])=false/\(x==[37])=false/\(x==[60,60])=false/\(x==[62,62])=false/\(x==[38])=false/\(x==[38,94])=false):=by
 by_cases h0:x=[124,124]
 .simp[h0]
 by_cases h1:x=[38,38]
 .simp[h1]
 by_cases h2:x=[61,61]
 .simp[h2]
 by_cases h3:x=[33,61]
 .simp[h3]
 by_cases h4:x=[60]
 .simp[h4]
 by_cases h5:x=[60,61]
 .simp[h5]
 by_cases h6:x=[62]
 .simp[h6]
 by_cases h7:x=[62,61]
 .simp[h7]
 by_cases h8:x=[43]
 .simp[h8]
 by_cases h9:x=[45]
 .simp[h9]
 by_cases h10:x=[124]
 .simp[h10]
 by_cases h11:x=[94]
 .simp[h11]
 by_cases h12:x=[42]
 .simp[h12]
 by_cases h13:x=[47]
 .simp[h13]
 by_cases h14:x=[37]
 .simp[h14]
 by_cases h15:x=[60,60]
 .simp[h15]
 by_cases h16:x=[62,62]
 .simp[h16]
 by_cases h17:x=[38]
 .simp[h17]
 by_cases h18:x=[38,94]
 .simp[h18]
 simp[h0,h1,h2,h3,h4,h5,h6,h7,h8,h9,h10,h11,h12,h13,h14,h15,h16,h17,h18]
theorem zKc(x:List UInt8):x=[61]\/x=[58,61]\/x=[43,61]\/x=[45,61]\/x=[42,61]\/x=[47,61]\/x=[37,61]\/x=[38,61]\/x=[124,61]\/x=[94,61]\/x=[60,60,61]\/x=[62,62,61]\/x=[38,94,61]\/((x==[61])=false/\(x==[58,61])=false/\(x==[43,61])=false/\(x==[45,61])=false/\(x==[42,61])=false/\(x==[47,61])=false/\(x==[37,61])=false/\(x==[38,61])=false/\(x==[124,61])=false/\(x==[94,61])=false/\(x==[60,60,61])=false/\(x==[62,62,61])=false/\(x==[38,94,61])=false):=by
 by_cases h0:x=[61]
 .simp[h0]
 by_cases h1:x=[58,61]
 .simp[h1]
 by_cases h2:x=[43,61]
 .simp[h2]
 by_cases h3:x=[45,61]
 .simp[h3]
 by_cases h4:x=[42,61]
 .simp[h4]
 by_cases h5:x=[47,61]
 .simp[h5]
 by_cases h6:x=[37,61]
 .simp[h6]
 by_cases h7:x=[38,61]
 .simp[h7]
 by_cases h8:x=[124,61]
 .simp[h8]
 by_cases h9:x=[94,61]
 .simp[h9]
 by_cases h10:x=[60,60,61]
 .simp[h10]
 by_cases h11:x=[62,62,61]
 .simp[h11]
 by_cases h12:x=[38,94,61]
 .simp[h12]
 simp[h0,h1,h2,h3,h4,h5,h6,h7,h8,h9,h10,h11,h12]
theorem zKz(w:ByteArray)(W:World):Calls Tryz.prog 100 #[.string w] W (λe W'=>e=.returned (.int .i64 (lvZ w.toList:Nat))/\W=W'):=by
 have hz:∀y,w.toList=y->lvZ w.toList=lvZ y:=λy h=>by rw[h]
 rcases zPm w.toList with h|h|h|h|h|h|h|h|h|h|h|h|h|h|h|h|h|h|h|⟨h0,h1,h2,h3,h4,h5,h6,h7,h8,h9,h10,h11,h12,h13,h14,h15,h16,h17,h18⟩;all_goals
  first
   |(rw[hz _ h])
   |(rw[show lvZ w.toList=0 by unfold lvZ;simp[h0,h1,h2,h3,h4,h5,h6,h7,h8,h9,h10,h11,h12,h13,h14,h15,h16,h17,h18]])
  go_enter Tryz.func100,Tryz.ntmps100;go_wp2;go_ret;exact⟨rfl,rfl⟩
theorem zPn(w:ByteArray)(W:World):Calls Tryz.prog 230 #[.string w] W (λe W'=>e=.returned (.bool (assignsZ w.toList))/\W=W'):=by
 have hz:∀y,w.toList=y->assignsZ w.toList=assignsZ y:=λy h=>by rw[h]
 rcases zKc w.toList with h|h|h|h|h|h|h|h|h|h|h|h|h|⟨h0,h1,h2,h3,h4,h5,h6,h7,h8,h9,h10,h11,h12⟩;all_goals
  first
   |(rw[hz _ h])
   |(rw[show assignsZ w.toList=false by unfold assignsZ;simp[h0,h1,h2,h3,h4,h5,h6,h7,h8,h9,h10,h11,h12]])
  go_enter Tryz.func230,Tryz.ntmps230;go_wp2;go_ret;exact⟨rfl,rfl⟩
@[irreducible] def QB(W:World)(e:Ending)(W':World):Prop:=∃b:Bool,e=.returned (.bool b)/\Below W.heap.size W W'
theorem QB.mk{W W':World}(b:Bool)(h:Below W.heap.size W W'):QB W (.returned (.bool b)) W':=by unfold QB;exact⟨b,rfl,h⟩
theorem QB.out{W W':World}{e:Ending}(h:QB W e W'):∃b:Bool,e=.returned (.bool b)/\Below W.heap.size W W':=by unfold QB at h;exact h
section
variable {E:SynE} {W:World} {j:Nat} {I:List Item} {F:Nat->Prop}
theorem Good.c{g k:Nat}{gs:List Nat}{ps:List Prt}(h:Good E W F g k gs ps):∃(w f t:Int) (v:Value),W.cell? ⟨g,0,none⟩=some (.int .u8 (k:Int))/\W.cell? ⟨g,1,none⟩=some (.int .i64 w)/\W.cell? ⟨g,2,none⟩=some (.int .i64 f)/\W.cell? ⟨g,3,none⟩=some (.int .i64 t)/\W.cell? ⟨g,4,none⟩=some v/\(∃a c,v=.slice a gs.length c)/\(-1<=w/\w<E.N)/\(k<256/\leastK k<=gs.length)/\g<W.heap.size:=by
 obtain⟨w,f,t,v,ps',hF,hc,hw,hk,hr,_⟩:=h.open';refine⟨w,f,t,v,by simp[World.cell?,hc],by simp[World.cell?,hc],by simp[World.cell?,hc],by simp[World.cell?,hc],by simp[World.cell?,hc],?_,hw,hk,yH hc⟩;rcases hr.1.2 with⟨hv,hn⟩|⟨g,cap,cur,hv,_⟩
 .exact⟨none,0,by rw[hv,hn]⟩
 .exact⟨_,_,hv⟩
theorem Good.kid{g k:Nat}{gs:List Nat}{ps:List Prt}(h:Good E W F g k gs ps){i:Nat}(hi:i<gs.length):∃b c,W.cell? ⟨g,4,none⟩=some (.slice (some ⟨b,0,none⟩) gs.length c)/\gs.length<=c/\W.cell? ⟨b,i,none⟩=some (ptrV gs[i])/\∃k' ks p,Good E W F gs[i] k' ks p/\p.length+1<=ps.length:=by
 obtain⟨w,f,t,v,ps',hF,hc,hw,hk,hr,hg,hps⟩:=h.open';obtain⟨k',ks,p,G,hp⟩:=hg.at hi;rcases hr.1.2 with⟨_,hn⟩|⟨b,cap,cur,rfl,_,hh,hnc,_⟩
 .omega
 .refine⟨b,cap,by simp[World.cell?,hc],hnc,?_,k',ks,p,G,by rw[hps];simp;omega⟩;rw[hr.1.cellAt i Z];unfold ptrsV;simp[hi]
theorem zWy{g k:Nat}{gs:List Nat}{ps:List Prt}(h:Good E W F g k gs ps):Calls Tryz.prog 220 #[ptrV g] W (QB W):=by
 have HQ:=Hd (λb=>QB.mk b (bR W.heap.size W));obtain⟨w,f,t,v,c0,-,-,-,-,-,-,hk,-⟩:=h.c;generalize QB W=Q at *;by_cases h26:k=26
 .subst h26;clear h;go_enter Tryz.func220,Tryz.ntmps220;go_wp2_with fail;exact HQ.out _
 have n26:((k:Int)==26)=false:=by simp;omega
 by_cases h29:k=29
 .subst h29;obtain⟨b,c,d4,hc,d,k',ks,p,G,-⟩:=h.kid (i:=0) (by have:=hk.2;unfold leastK at this;simp at this;omega);obtain⟨_,_,_,_,e0,-⟩:=G.c;have hpos:(0:Int)<gs.length:=by have:=hk.2;unfold leastK at this;simp at this;omega
  have hpn:0<gs.length:=Z;generalize gs[0]'hpn=y at *;clear h G;go_enter Tryz.func220,Tryz.ntmps220;go_wp2_with fail;all_goals exact HQ.out _
 .have n29:((k:Int)==29)=false:=by simp;omega
  clear h;go_enter Tryz.func220,Tryz.ntmps220;go_wp2_with fail;exact HQ.out _
theorem zSo(hr:Rd E W j){g k:Nat}{gs:List Nat}{ps:List Prt}(h:Good E W F g k gs ps):Calls Tryz.prog 183 #[ptrV E.gr,ptrV g] W (QB W):=by
 have HQ:=Hd (λb=>QB.mk b (bR W.heap.size W));have HX:=Hd (λe w h=>QB.out (W:=W) (e:=e) (W':=w) h);have HP:=Hd (λg k gs ps (h:Good E W F g k gs ps)=>zWy h);obtain⟨w,f,t,v,c0,-,-,-,c4,⟨va,vc,hv⟩,-,hk,-⟩:=h.c;obtain⟨tb,q4⟩:=hr.c.2.2.2.2.1;generalize QB W=Q at *;by_cases hm:k=41\/k=42\/k=43\/k=44\/k=47
 .rcases hm with rfl|rfl|rfl|rfl|rfl;all_goals
   go_enter Tryz.func183,Tryz.ntmps183;go_wp2_with fail;exact HQ.out _
 have n1:((k:Int)==41)=false:=by simp;omega
 have n2:((k:Int)==42)=false:=by simp;omega
 have n3:((k:Int)==43)=false:=by simp;omega
 have n4:((k:Int)==44)=false:=by simp;omega
 have n5:((k:Int)==47)=false:=by simp;omega
 cases tb with
 |true =>
  by_cases h30:k=30
  .subst h30;obtain⟨b,c,d4,hc,d,k',ks,p,G,-⟩:=h.kid (i:=0) (by have:=hk.2;unfold leastK at this;simp at this;omega);have hpos:(0:Int)<gs.length:=by have:=hk.2;unfold leastK at this;simp at this;omega
   have hpn:0<gs.length:=Z;clear c4 h hv;generalize gs[0]'hpn=y at *;go_enter Tryz.func183,Tryz.ntmps183;go_wp2_with fail;exact HQ.out _
  .have n30:((k:Int)==30)=false:=by simp;omega
   go_enter Tryz.func183,Tryz.ntmps183;go_wp2_with fail;exact HQ.out _
 |false =>
  by_cases h30:k=30
  .subst h30;obtain⟨b,c,d4,hc,d,k',ks,p,G,-⟩:=h.kid (i:=0) (by have:=hk.2;unfold leastK at this;simp at this;omega);have hpos:(0:Int)<gs.length:=by have:=hk.2;unfold leastK at this;simp at this;omega
   have hpn:0<gs.length:=Z;have C:=Hd (HP.out _ _ _ _ G);clear c4 h hv HP G;generalize gs[0]'hpn=y at *;go_enter Tryz.func183,Tryz.ntmps183;go_wp2_with fail;refine C.out.mono ?_;intro e w1 h1;obtain⟨b,rfl,hb⟩:=HX.out _ _ h1;go_wp2_with fail;exact h1
  .have n30:((k:Int)==30)=false:=by simp;omega
   have C:=Hd (HP.out _ _ _ _ h);clear c4 h hv HP;go_enter Tryz.func183,Tryz.ntmps183;go_wp2_with fail;refine C.out.mono ?_;intro e w1 h1;obtain⟨b,rfl,hb⟩:=HX.out _ _ h1;go_wp2_with fail;exact h1
end
section
variable {E:SynE} {W:World} {j:Nat} {I:List Item}
theorem zLa(F:SynF E)(h:Rd E W j):Calls Tryz.prog 151 #[ptrV E.gr] W (QB W):=by
 have HQ:=Hd (λW' b (hb:Below W.heap.size W W')=>QB.mk (W:=W) b hb);have C:=Hd (λW' (hb:Below W.heap.size W W')=>gO F (h.ext hb));have CE:=Hd (λW' (hb:Below W.heap.size W W')=>fQ F (h.ext hb));have H0:=Hd (bR W.heap.size W);have HT:=Hd (λa b (h1:Below W.heap.size W a) (h2:Below a.heap.size a b)=>zD h1 h2);generalize QB W=Q at *;generalize wordZ E j=x at *;generalize endedB E j=eb at *;clear h F;cases h1:(x.toList==[59])with
 |true =>
  go_enter Tryz.func151,Tryz.ntmps151;go_wp2_with fail;refine(C.out _ H0.out).mono ?_;rintro e w1 ⟨rfl,hb⟩;have H1:=Hd hb;clear hb;go_wp2_with fail;exact HQ.out _ _ H1.out
 |false =>
  cases h2:(x.toList==[125])with
  |true =>
   go_enter Tryz.func151,Tryz.ntmps151;go_wp2_with fail;refine(C.out _ H0.out).mono ?_;rintro e w1 ⟨rfl,hb⟩;have H1:=Hd hb;clear hb;go_wp2_with fail;refine(C.out _ H1.out).mono ?_;rintro e w2 ⟨rfl,hb⟩;have H2:=Hd (HT.out _ _ H1.out hb);clear hb;go_wp2_with fail;exact HQ.out _ _ H2.out
  |false =>
   go_enter Tryz.func151,Tryz.ntmps151;go_wp2_with fail;refine(C.out _ H0.out).mono ?_;rintro e w1 ⟨rfl,hb⟩;have H1:=Hd hb;clear hb;go_wp2_with fail;refine(C.out _ H1.out).mono ?_;rintro e w2 ⟨rfl,hb⟩;have H2:=Hd (HT.out _ _ H1.out hb);clear hb;go_wp2_with fail;refine(CE.out _ H2.out).mono ?_;rintro e w3 ⟨rfl,hb⟩;have H3:=Hd (HT.out _ _ H2.out hb);clear hb;go_wp2_with fail;exact HQ.out _ _ H3.out
theorem zPo(F:SynF E)(h:Rd E W j):Calls Tryz.prog 155 #[ptrV E.gr] W (QB W):=by
 have HQ:=Hd (λW' b (hb:Below W.heap.size W W')=>QB.mk (W:=W) b hb);have C:=Hd (gO F h);have hj:=h.jn F;have hle:=h.le;have hjb:(j:Int)<=1000000:=by have:=F.n;unfold SynE.N at *;omega
 have CN:=Hd (λW' (hb:Below W.heap.size W W') i hi=>xS F (h.ext hb) i hi);have CW:=Hd (λW' (hb:Below W.heap.size W W') i hi=>yX F (h.ext hb) i hi);have C3:=Hd (λW' (hb:Below W.heap.size W W')=>(h.ext hb).c3);have HT:=Hd (λa b (h1:Below W.heap.size W a) (h2:Below a.heap.size a b)=>zD h1 h2);have c3:=h.c3;have w1:=wi64 ((j:Int)+1) Z;have w2:=wi64 ((j:Int)+2) Z;generalize QB W=Q at *;have k1:-1000000000<=(j:Int)+1/\(j:Int)+1<=1000000000:=Z;have k2:-1000000000<=(j:Int)+2/\(j:Int)+2<=1000000000:=Z;have CN1:=Hd (λW' hb=>CN.out W' hb ((j:Int)+1) k1);have CN2:=Hd (λW' hb=>CN.out W' hb ((j:Int)+2) k2);have CW2:=Hd (λW' hb=>CW.out W' hb ((j:Int)+2) k2);generalize wordZ E j=x at *;generalize wordZ E ((j:Int)+2)=y at *;generalize namedB E ((j:Int)+1)=n1 at *;generalize namedB E ((j:Int)+2)=n2 at *;clear h F k1 k2 hj CN CW;cases h1:(x.toList==[91])with
 |false =>
  go_enter Tryz.func155,Tryz.ntmps155;go_wp2_with fail;refine C.out.mono ?_;rintro e v1 ⟨rfl,hb⟩;have H1:=Hd hb;clear hb;go_wp2_with fail;exact HQ.out _ _ H1.out
 |true =>
  cases n1 with
  |false =>
   go_enter Tryz.func155,Tryz.ntmps155;go_wp2_with fail;refine C.out.mono ?_;rintro e v1 ⟨rfl,hb⟩;have H1:=Hd hb;have d3:=C3.out _ hb;clear hb;go_wp2_with fail;refine(CN1.out _ H1.out).mono ?_;rintro e v2 ⟨rfl,hb⟩;have H2:=Hd (HT.out _ _ H1.out hb);clear hb;go_wp2_with fail;exact HQ.out _ _ H2.out
  |true =>
   go_enter Tryz.func155,Tryz.ntmps155;go_wp2_with fail;refine C.out.mono ?_;rintro e v1 ⟨rfl,hb⟩;have H1:=Hd hb;have d3:=C3.out _ hb;clear hb;go_wp2_with fail;refine(CN1.out _ H1.out).mono ?_;rintro e v2 ⟨rfl,hb⟩;have H2:=Hd (HT.out _ _ H1.out hb);have e3:=C3.out _ H2.out;clear hb;go_wp2_with fail;refine(CW2.out _ H2.out).mono ?_;rintro e v3 ⟨rfl,hb⟩;have H3:=Hd (HT.out _ _ H2.out hb);have f3:=C3.out _ H3.out;clear hb;by_cases hy:y.toList=[44]\/y.toList=[126]\/y.toList=[105,110,116,101,114,102,97,99,101]\/y.toList=[102,117,110,99]\/y.toList=[109,97,112]\/y.toList=[99,104,97,110]\/y.toList=[115,116,114,117,99,116]
   .rcases hy with hy|hy|hy|hy|hy|hy|hy;all_goals
     go_wp2_with fail;exact HQ.out _ _ H3.out
   .simp only[not_or]at hy;obtain⟨y1,y2,y3,y4,y5,y6,y7⟩:=hy;have z1:(y.toList==[44])=false:=by simpa using y1
    have z2:(y.toList==[126])=false:=by simpa using y2
    have z3:(y.toList==[105,110,116,101,114,102,97,99,101])=false:=by simpa using y3
    have z4:(y.toList==[102,117,110,99])=false:=by simpa using y4
    have z5:(y.toList==[109,97,112])=false:=by simpa using y5
    have z6:(y.toList==[99,104,97,110])=false:=by simpa using y6
    have z7:(y.toList==[115,116,114,117,99,116])=false:=by simpa using y7
    clear y1 y2 y3 y4 y5 y6 y7;go_wp2_with fail;refine(CN2.out _ H3.out).mono ?_;rintro e v4 ⟨rfl,hb⟩;have H4:=Hd (HT.out _ _ H3.out hb);clear hb;go_wp2_with fail;exact HQ.out _ _ H4.out
@[irreducible] def QA(W:World)(e:Ending)(W':World):Prop:=∃(q:Int) (b:Bool),e=.returned (.tuple #[.int .i64 q,.bool b])/\(-1000000000<=q/\q<=1000000000)/\Below W.heap.size W W'
theorem zId(F:SynF E)(h:Rd E W j)(i:Nat)(hi:i<=100000000):Calls Tryz.prog 176 #[ptrV E.gr,.int .i64 (i:Int)] W (QA W):=by
 have HQ:Hid (∀W' q b,(-1000000000<=q/\q<=1000000000)->Below W.heap.size W W'->QA W (.returned (.tuple #[.int .i64 q,.bool b])) W'):=Hd (λW' q b h1 h2=>by unfold QA;exact⟨q,b,rfl,h1,h2⟩);have C:=Hd (yX F h i Z);generalize QA W=Q at *;cases hx:((wordZ E i).toList==[91])with
 |false =>
  generalize wordZ E i=x at *;clear h F;go_enter Tryz.func176,Tryz.ntmps176;go_wp2_with fail;refine C.out.mono ?_;rintro e v1 ⟨rfl,hb⟩;have H1:=Hd hb;clear hb;go_wp2_with fail;exact HQ.out _ _ _ Z H1.out
 |true =>
  have hlt:i<E.prs.length:=by
   rw[F.Pl];exact zBk (by intro e;rw[e]at hx;cases hx)
  have HP:=Hd (λW' (hb:Below W.heap.size W W')=>(F.P.below (zD h.below hb)).open');have HC:=Hd (λW' (hb:Below W.heap.size W W')=>(h.ext hb).c.2.2.1);obtain⟨p1,p2⟩:=F.Pb _ (gM hlt);generalize wordZ E i=x at *;have w1:=wi64 ((i:Int)+1) Z;have hpl:(E.prs.length:Int)<=1000000:=by rw[F.Pl];have:=F.n;omega
  clear h F;go_enter Tryz.func176,Tryz.ntmps176;go_wp2_with fail;refine C.out.mono ?_;rintro e v1 ⟨rfl,hb⟩;obtain⟨a,cap,hv,hcap,hcells⟩:=HP.out _ hb;obtain⟨b,off,rfl,_,hcell⟩:=hcells Z;have c2:=HC.out _ hb;have cp:=hcell i hlt;rw[hv]at c2;have H1:=Hd hb;have hltI:(i:Int)<E.prs.length:=Z;generalize hpq:E.prs[i]=pq at *;have w2:=wi64 (pq+1) Z;clear hb hcells hv hcell hpq HP HC;by_cases heq:pq=(i:Int)+1
  .subst heq;clear p1 p2 w2;go_wp2_with fail;exact HQ.out _ 0 false Z H1.out
  .have hne:(pq==(i:Int)+1)=false:=by simpa using heq
   clear heq;go_wp2_with fail;exact HQ.out _ (pq+1) true Z H1.out
end
section
variable {E:SynE} {W:World} {j:Nat} {I:List Item}
theorem QA.out{W W':World}{e:Ending}(h:QA W e W'):∃(q:Int) (b:Bool),e=.returned (.tuple #[.int .i64 q,.bool b])/\(-1000000000<=q/\q<=1000000000)/\Below W.heap.size W W':=by unfold QA at h;exact h
theorem yAx(F:SynF E)(h:Rd E W j):Calls Tryz.prog 195 #[ptrV E.gr] W (QB W):=by
 have HQ:=Hd (λW' b (hb:Below W.heap.size W W')=>QB.mk (W:=W) b hb);have hle:=h.le;have hjb:(j:Int)<=1000000:=by have:=F.n;unfold SynE.N at *;omega
 have C:=Hd (xS F h j (h.jn F));have CW:=Hd (λW' (hb:Below W.heap.size W W') i hi=>yX F (h.ext hb) i hi);have CA:=Hd (λW' (hb:Below W.heap.size W W')=>zId F (h.ext hb) (j+1) Z);have CX:=Hd (λa e b h=>QA.out (W:=a) (e:=e) (W':=b) h);have C3:=Hd (λW' (hb:Below W.heap.size W W')=>(h.ext hb).c3);have HT:=Hd (λa b (h1:Below W.heap.size W a) (h2:Below a.heap.size a b)=>zD h1 h2);have c3:=h.c3;have w1:=wi64 ((j:Int)+1) Z;rw[show(((j+1:Nat):Int))=(j:Int)+1 by omega]at CA;have CW1:=Hd (λW' hb=>CW.out W' hb ((j:Int)+1) Z);generalize QB W=Q at *;generalize wordZ E ((j:Int)+1)=y at *;generalize namedB E (j:Int)=n1 at *;clear h F;cases n1 with
 |false =>
  go_enter Tryz.func195,Tryz.ntmps195;go_wp2_with fail;refine C.out.mono ?_;rintro e v1 ⟨rfl,hb⟩;have H1:=Hd hb;clear hb;go_wp2_with fail;exact HQ.out _ _ H1.out
 |true =>
  go_enter Tryz.func195,Tryz.ntmps195;go_wp2_with fail;refine C.out.mono ?_;rintro e v1 ⟨rfl,hb⟩;have H1:=Hd hb;have d3:=C3.out _ hb;clear hb;go_wp2_with fail;refine(CW1.out _ H1.out).mono ?_;rintro e v2 ⟨rfl,hb⟩;have H2:=Hd (HT.out _ _ H1.out hb);have e3:=C3.out _ H2.out;clear hb;by_cases hy:y.toList=[44]\/y.toList=[41]\/y.toList=[46]
  .rcases hy with hy|hy|hy;all_goals
    go_wp2_with fail;exact HQ.out _ _ H2.out
  .simp only[not_or]at hy;obtain⟨y1,y2,y3⟩:=hy;have z1:(y.toList==[44])=false:=by simpa using y1
   have z2:(y.toList==[41])=false:=by simpa using y2
   have z3:(y.toList==[46])=false:=by simpa using y3
   clear y1 y2 y3;go_wp2_with fail;refine(CA.out _ H2.out).mono ?_;intro e v3 h3;obtain⟨q,b,rfl,hq,hb⟩:=CX.out _ _ _ h3;have H3:=Hd (HT.out _ _ H2.out hb);have CWQ:=Hd (λW' hb=>CW.out W' hb q hq);clear hb h3;generalize wordZ E q=z at *;cases b with
   |false =>
    go_wp2_with fail;exact HQ.out _ _ H3.out
   |true =>
    cases hz1:(z.toList==[44])with
    |true =>
     go_wp2_with fail;refine(CWQ.out _ H3.out).mono ?_;rintro e v4 ⟨rfl,hb⟩;have H4:=Hd (HT.out _ _ H3.out hb);clear hb;go_wp2_with fail;exact HQ.out _ _ H4.out
    |false =>
     go_wp2_with fail;refine(CWQ.out _ H3.out).mono ?_;rintro e v4 ⟨rfl,hb⟩;have H4:=Hd (HT.out _ _ H3.out hb);clear hb;go_wp2_with fail;refine(CWQ.out _ H4.out).mono ?_;rintro e v5 ⟨rfl,hb⟩;have H5:=Hd (HT.out _ _ H4.out hb);clear hb;go_wp2_with fail;exact HQ.out _ _ H5.out
def BoxR(E:SynE)(b:Nat)(W:World):Prop:=W.heap[b]?=some (.cells #[ptrV E.gr] 44 (0,0))
theorem BoxR.c{b:Nat}(h:BoxR E b W):W.cell? ⟨b,0,none⟩=some (ptrV E.gr):=by unfold BoxR at h;simp[World.cell?,h]
theorem zWz(F:SynF E)(h:Rd E W j)(g:Nat)(hg:BoxR E g W)(i:Int)(hi:-1000000000<=i/\i<=1000000000):Calls Tryz.prog 175 #[.int .i64 i,ptrV g] W (QB W):=by
 have HQ:=Hd (λW' b (hb:Below W.heap.size W W')=>QB.mk (W:=W) b hb);have C:=Hd (zDb F h i hi);have CW:=Hd (λW' (hb:Below W.heap.size W W')=>yX F (h.ext hb) i hi);have HT:=Hd (λa b (h1:Below W.heap.size W a) (h2:Below a.heap.size a b)=>zD h1 h2);have HG:=Hd (λW' (hb:Below W.heap.size W W')=>BoxR.c (E:=E) (b:=g) (W:=W') (keeps hb hg));have c0:=hg.c;generalize QB W=Q at *;generalize wordZ E i=y at *;generalize quotedB E i=n1 at *;clear h F hg;cases n1 with
 |true =>
  go_enter Tryz.func175,Tryz.ntmps175;go_wp2_with fail;refine C.out.mono ?_;rintro e v1 ⟨rfl,hb⟩;have H1:=Hd hb;clear hb;go_wp2_with fail;exact HQ.out _ _ H1.out
 |false =>
  cases hz:(y.toList==[59])with
  |true =>
   go_enter Tryz.func175,Tryz.ntmps175;go_wp2_with fail;refine C.out.mono ?_;rintro e v1 ⟨rfl,hb⟩;have H1:=Hd hb;have d0:=HG.out _ hb;clear hb;go_wp2_with fail;refine(CW.out _ H1.out).mono ?_;rintro e v2 ⟨rfl,hb⟩;have H2:=Hd (HT.out _ _ H1.out hb);clear hb;go_wp2_with fail;exact HQ.out _ _ H2.out
  |false =>
   go_enter Tryz.func175,Tryz.ntmps175;go_wp2_with fail;refine C.out.mono ?_;rintro e v1 ⟨rfl,hb⟩;have H1:=Hd hb;have d0:=HG.out _ hb;clear hb;go_wp2_with fail;refine(CW.out _ H1.out).mono ?_;rintro e v2 ⟨rfl,hb⟩;have H2:=Hd (HT.out _ _ H1.out hb);have e0:=HG.out _ H2.out;clear hb;go_wp2_with fail;refine(CW.out _ H2.out).mono ?_;rintro e v3 ⟨rfl,hb⟩;have H3:=Hd (HT.out _ _ H2.out hb);clear hb;go_wp2_with fail;exact HQ.out _ _ H3.out
end
end Go.Proofs.YtfpjdpdmgceciaaGreatDoor
