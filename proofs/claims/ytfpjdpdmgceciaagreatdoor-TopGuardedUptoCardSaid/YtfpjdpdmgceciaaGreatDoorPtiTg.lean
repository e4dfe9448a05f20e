/- Layer 12: a whole tree. -/
import Derived.Test.YtfpjdpdmgceciaaGreatDoorPthTg
import Derived.Test.YtfpjdpdmgceciaaGreatDoorPsgTg
import Derived.Test.YtfpjdpdmgceciaaGreatDoorPxBTg
namespace Go.Proofs.YtfpjdpdmgceciaaGreatDoor
set_option maxRecDepth 100000
set_option maxHeartbeats 32000000
set_option linter.all false
attribute [local irreducible] Calls
attribute [local irreducible] wpStill
open Go.RowKit
abbrev Aw(E:SynE)(x:ExT):Prop:=TXL E.s E.toks x
theorem Aw.N{E:SynE}{x:ExT}(h:Aw E x):E.N=x.toks.length+1:=h.n
theorem Aw.f{E:SynE}{x:ExT}(h:Aw E x):(wordZ E ((x.toks.length:Nat):Int)).toList=[59]:=by
 obtain⟨t,h1,h2⟩:=h.e;have hl:=zNe h1;unfold wordZ;rw[iN hl,Int.toNat_natCast,h1];simp only[];rw[iP h2];decide +kernel
theorem yFd{E:SynE}{x:ExT}(h:Aw E x)(HF:Hid (SynF E)){W:World}{I:List Item}(HS:Hid (St E W 0 I)):Calls Tryz.prog 35 #[ptrV E.gr] W (PX E I x.toks.length x.flat):=by
 have:=(yGq HF 10000 (nR _) x h.l h.r h.w h.g).e W 0 I HS h.sp (by unfold StopE;rw[Nat.zero_add,h.f];decide);rw[Nat.zero_add]at this;exact this
@[irreducible] def TR(E:SynE)(I:List Item)(P:List Prt)(X G:Prop)(e:Ending)(W':World):Prop :=
 (∃g k gs ps,∃i:Nat,e=.returned (.tuple #[ptrV g,.agg #[.int .i64 0,.int .i64 0]])/\St E W' i (.done g k gs ps::I)/\(ps.length:Int)<=8*(E.N:Int)+10/\(X->ps=P)/\(G->X1 ps))\/
 (∃a:Int,∃i:Nat,e=.returned (.tuple #[.pointer none,.agg #[.int .i64 7,.int .i64 a]])/\St E W' i I/\¬X)
abbrev doorD(fb nb rb:Nat):List Deferred:=[{ target:=.fn (.func 33) #[ptrV rb,ptrV nb,ptrV fb],args:=#[] }]
section
variable {E:SynE} {W:World} {j:Nat} {I:List Item} {P:List Prt} {X G:Prop}
theorem zXe(F:SynF E){fb nb rb:Nat}{pv:Value}(h:St E W j (treeI E fb nb rb 0 0 pv I))(hx:¬X)(i:Nat)(hi:i<=1000000000)(tmps:Array Value)(h4:tmps[4]?=some (ptrV nb))(h5:tmps[5]?=some (ptrV fb)) :
  Leaves Tryz.prog Tryz.f25 tmps (TR E I P X G) (doorD fb nb rb) (.panicking [{ v:=.iface 78 (.int .i64 (i:Int)),recovered:=false }]) W:=by
 refine leaves_cons (f:=33) (args:=#[ptrV rb,ptrV nb,ptrV fb]) Ob (by simp[go_sem]) ?_;refine(zPz F h i hi).mono ?_;rintro e u' w' ⟨rfl,rfl,a,hs⟩;have c_nb:=hs.cell (b:=nb) (T:=41) (cs:=#[.pointer none]) (.tail _ (.head _)) 0;have c_f0:=hs.cell (b:=fb) (T:=25) (cs:=#[.int .i64 7,.int .i64 a]) (.head _) 0;have c_f1:=hs.cell (b:=fb) (T:=25) (cs:=#[.int .i64 7,.int .i64 a]) (.head _) 1;simp only[List.size_toArray,lC,lN,List.getElem?_toArray,List.getElem?_cons_zero,List.getElem?_cons_succ]at c_nb c_f0 c_f1;have hT:TR E I P X G (.returned (.tuple #[.pointer none,.agg #[.int .i64 7,.int .i64 a]])) w':=by
  unfold TR;exact Or.inr ⟨a,j,rfl,hs.tl.tl.tl,hx⟩
 generalize TR E I P X G=Q at *;simp[Leaves,settle,results,Tryz.results25,go_sem,h4,h5,c_nb,c_f0,c_f1,hT]
theorem yBk{fb nb rb:Nat}{g k:Nat}{gs:List Nat}{ps:List Prt}(h:St E W j (treeI E fb nb rb 0 0 (ptrV g) (.done g k gs ps::I)))(hp:(ps.length:Int)<=8*(E.N:Int)+10)(hx:X->ps=P)(hg:G->X1 ps)(tmps:Array Value)(h4:tmps[4]?=some (ptrV nb))(h5:tmps[5]?=some (ptrV fb)) :
  Leaves Tryz.prog Tryz.f25 tmps (TR E I P X G) (doorD fb nb rb) .returning W:=by
 refine leaves_cons (f:=33) (args:=#[ptrV rb,ptrV nb,ptrV fb]) Ob (by simp[go_sem]) ?_;refine(zXd W fb nb rb).mono ?_;rintro e u' w' ⟨rfl,rfl,rfl⟩;have c_nb:=h.cell (b:=nb) (T:=41) (cs:=#[ptrV g]) (.tail _ (.head _)) 0;have c_f0:=h.cell (b:=fb) (T:=25) (cs:=#[.int .i64 0,.int .i64 0]) (.head _) 0;have c_f1:=h.cell (b:=fb) (T:=25) (cs:=#[.int .i64 0,.int .i64 0]) (.head _) 1;simp only[List.size_toArray,lC,lN,List.getElem?_toArray,List.getElem?_cons_zero,List.getElem?_cons_succ]at c_nb c_f0 c_f1;have hT:TR E I P X G (.returned (.tuple #[ptrV g,.agg #[.int .i64 0,.int .i64 0]])) w':=by
  unfold TR;exact Or.inl ⟨g,k,gs,ps,j,rfl,h.tl.tl.tl,hp,hx,hg⟩
 generalize TR E I P X G=Q at *;simp[Leaves,settle,results,Tryz.results25,go_sem,h4,h5,c_nb,c_f0,c_f1,hT]
@[irreducible] def trRel(E:SynE)(fb nb rb:Nat)(I:List Item)(P:List Prt)(X G:Prop)(n:Nat)(W:World):Prop :=
 ∃g k gs ps,∃i:Nat,St E W i (treeI E fb nb rb 0 0 (ptrV g) (.done g k gs ps::I))/\(ps.length:Int)<=8*(E.N:Int)+10/\(X->i=n/\ps=P)/\(G->X1 ps)
theorem yFe{fb nb rb:Nat}{pv:Value}{x:Item}(h:St E W j (treeI E fb nb rb 0 0 pv (x::I))):St E W j (treeI E fb nb rb 0 0 pv I) :=
 h.sub (((List.sublist_cons_self _ _).cons_cons _).cons_cons _ |>.cons_cons _)
theorem yGp{fb nb rb g k i:Nat}{gs:List Nat}{ps:List Prt}{a:Int}(h:St E W i (.done g k gs ps::treeI E fb nb rb 0 0 (.pointer none) I))(ha:a<=10)(hz:(ps.length:Int)<=8*((i:Int)-j)+a){n:Nat}(hx:X->i=n/\ps=P)(hg:G->X1 ps):trRel E fb nb rb I P X G n (W.setCell ⟨nb,0,none⟩ (ptrV g)):=by
 have:=h.r.le;unfold trRel;refine⟨g,k,gs,ps,i,(h.put [.done g k gs ps,.raw fb (fltO 0 0)] 0 (ptrV g)).perm ?_,Z,hx,hg⟩;exact(List.perm_middle (l₁:=[Item.raw fb (fltO 0 0),Item.raw nb (.cells #[ptrV g] 41 (0,0)),Item.raw rb (.cells #[ptrV E.gr] 44 (0,0))]))
theorem yBl(x:ExT)(F:SynF E)(h:St E W 0 I)(gl:Nat)(hg:gl=2):Calls Tryz.prog 25 #[ptrV E.gr,.int .u8 (gl:Int)] W (TR E I x.flat (Aw E x/\gl=2) (gl=2)):=by
 have hsz:E.gr<W.heap.size:=h.r.lt;have HS:=Hd (((h.new (.cells #[ptrV E.gr] 44)).new (.cells #[.pointer none] 41)).new (.cells #[.int .i64 0,.int .i64 0] 25));have HF:=Hd F;have HI:=Hd (IH.all F (64*(E.N-0)+40));have hN:=SynF.N HF;have HX:Hid (∀X:Prop,X=(Aw E x/\gl=2)->(X->Aw E x/\gl=2)/\(gl≠2->¬X)/\(¬Aw E x->¬X)):=Hd λX e=>by subst e;exact⟨id,λh x=>h x.2,λh x=>h x.1⟩
 obtain⟨X,hX⟩:∃X:Prop,X=(Aw E x/\gl=2):=⟨_,rfl⟩;obtain⟨G,hGG⟩:∃G:Prop,G=(gl=2):=⟨_,rfl⟩;have HGG:Hid (G->gl=2):=Hd (λh=>hGG▸h);have HD:=Hd (λ(hx:¬X) W j I fb nb rb pv (h:St E W j (treeI E fb nb rb 0 0 pv I)) (i:Nat) (hi:i<=1000000000) tmps h4 h5=>zXe (P:=x.flat) (G:=G) F h hx i hi tmps h4 h5);have HO:=Hd (λW j I fb nb rb g k gs ps (h:St E W j (treeI E fb nb rb 0 0 (ptrV g) (.done g k gs ps::I))) hp (hx:X->ps=x.flat) (hg:G->X1 ps) tmps h4 h5=>yBk h hp hx hg tmps h4 h5);rw[<-hX,<-hGG];obtain⟨x1,x2,x3⟩:=HX.out X hX;clear h F HX hX hGG
 go_enter_defers Tryz.func25,Tryz.ntmps25
 go_upto_block 0 with(fail);have HS0:Hid (St E (((W.alloc (.cells #[ptrV E.gr] 44)).alloc (.cells #[.pointer none] 41)).alloc (.cells #[.int .i64 0,.int .i64 0] 25)) 0 (treeI E (W.heap.size+1+1) (W.heap.size+1) W.heap.size 0 0 (.pointer none) I)):=Hd (by have:=HS.out;simpa using this);clear HS hsz;generalize(((W.alloc (.cells #[ptrV E.gr] 44)).alloc (.cells #[.pointer none] 41)).alloc (.cells #[.int .i64 0,.int .i64 0] 25))=w0 at *;generalize W.heap.size+1+1=fb at *;generalize W.heap.size+1=nb at *;generalize W.heap.size=rb at *;have b_rb:=HS0.out.box (b:=rb) (T:=44) (v:=ptrV E.gr) t2;have z_nb:=HS0.out.boxz (b:=nb) (T:=41) (v:=.pointer none) t1;go_cut [7]from 8 (λv W=>v=.int .u8 (gl:Int)/\trRel E fb nb rb I x.flat X G x.toks.length W)
 case first =>
  subst hg;clear x1 x2;by_cases hA:Aw E x
  case neg =>
   have nx:=Hd (x3 hA);clear x3;go_wp2_with fail;refine mVk (HI.out.expr _ _ _ HS0.out Z) (λi W' hs=>by dsimp only[panE];refine HD.out nx.out _ _ _ _ _ _ _ hs i (by have:=hs.r.le;omega) _ ?_ ?_<;>rfl) λg1 k1 s1 p1 i1 w1 HS1 hz1 kp1=>?_;clear z_nb b_rb;have z_nb:=HS1.out.boxz (b:=nb) (T:=41) (v:=.pointer none) t2;have b_nb:=HS1.out.box (b:=nb) (T:=41) (v:=.pointer none) t2;go_wp2_with fail;go_meet
   case rel=>exact⟨rfl,yGp (a:=-7) HS1.out Z hz1.2.2.2 (λh=>absurd h nx.out) (λ_=>kp1)⟩
  case pos =>
   have HA:=Hd (yFd hA HF HS0);have HAA:=Hd hA;clear x3 hA;go_wp2_with fail;refine xV HA.out λg1 k1 s1 i1 w1 HS1 hi1=>?_;clear z_nb b_rb;have z_nb:=HS1.out.boxz (b:=nb) (T:=41) (v:=.pointer none) t2;have b_nb:=HS1.out.box (b:=nb) (T:=41) (v:=.pointer none) t2;go_wp2_with fail;go_meet
   case rel=>exact⟨rfl,yGp (j:=0) (a:=10) HS1.out Z (by rw[hi1.out];have:=HAA.out.lt;omega) (λ_=>⟨hi1.out,rfl⟩) (λ_ _=>⟨x,HAA.out.r,rfl⟩)⟩
 obtain⟨rfl,hcut⟩:=hcut;have hglI:(gl:Int)<=2:=Z;clear hg;unfold trRel at hcut;obtain⟨g,k,gs,ps,i,hst,hp,hx,hgx⟩:=hcut;have HGX:=Hd hgx;clear hgx;have HS2:=Hd hst;clear hst HS0 b_rb z_nb HI;generalize wc=w2 at *;have b_rb:=HS2.out.box (b:=rb) (T:=44) (v:=ptrV E.gr) t2;obtain⟨q0,q1,q2,q3,-,qz⟩:=HS2.out.r.c;obtain⟨va,vc,hv,hcap,hT⟩:=HF.out.T;rw[hv]at q1;clear hT;have hi:=HS2.out.r.le;go_upto_region 10 with(fail);go_cut [36]from 22 to 36 (λv W=>Below w2.heap.size w2 W/\∃b:Bool,v=.bool b/\(X->b=true))
 case first =>
  by_cases hXX:X
  .obtain⟨hA,rfl⟩:=x1 hXX;obtain⟨rfl,-⟩:=hx hXX;have hl4:E.toks.length=x.toks.length+1:=hA.N;rw[hl4]at q1;have hwn:IntKind.i64.wrap (((x.toks.length+1:Nat):Int)-1)=(x.toks.length:Int):=by rw[wi64 _ (by have:=SynF.N HF;have:=hA.N;omega)];omega
   clear hA hl4;go_region;go_wp2_with fail;go_meet
   case rel=>exact⟨below_drewN (bR _ _) _,_,rfl,λ_=>rfl⟩
  .have hXX:=Hd hXX;go_region;go_wp2_with fail;go_meet
   case rel=>exact⟨below_drewN (bR _ _) _,_,rfl,λh=>absurd h hXX.out⟩
 obtain⟨hb,b,rfl,hxb⟩:=hcut;have HS3:=Hd (HS2.out.ext hb);clear hb HS2 b_rb q0 q1 q2 q3 qz;generalize wc=w3 at *;have b_rb:=HS3.out.box (b:=rb) (T:=44) (v:=ptrV E.gr) t2;have HW4:Hid (X->isW E i [59]=true):=Hd λh=>by
  obtain⟨rfl,-⟩:=hx h;unfold isW;rw[(x1 h).1.f];decide
 have HX3:=Hd hx;have HXB:=Hd hxb;clear hx hxb;go_upto_if 36 with(fail);go_cut [37]from 38 to 39 (λ_ W=>trRel E fb nb rb I x.flat X G (x.toks.length+1) W)
 case first =>
  cases b with
  |true =>
   go_wp2_with fail;refine(zBz HF.out HS3.out [59] V).mono ?_;intro e w4 h4;unfold PM at h4;obtain⟨rfl,h4⟩:=h4;have HS4:=Hd h4;clear h4;go_wp2_with fail;go_meet
   case rel=>unfold trRel;exact⟨g,k,gs,ps,_,HS4.out,hp,λh=>⟨by rw[HW4.out h,(HX3.out h).1];rfl,(HX3.out h).2⟩,HGX.out⟩
  |false =>
   go_wp2_with fail;go_meet
   case rel=>unfold trRel;exact⟨g,k,gs,ps,i,HS3.out,hp,λh=>absurd (HXB.out h) V,HGX.out⟩
 unfold trRel at hcut;clear HS3 b_rb hi hv hcap hp HW4 HX3 HXB;obtain⟨g5,k5,gs5,ps5,i5,hst,hp5,hx5,hg5⟩:=hcut;have HG5:=Hd hg5;clear hg5;have HS5:=Hd hst;have hi5:=hst.r.le;have HXE:Hid (endedB E i5=false->¬X):=Hd λh hXX=>by
  unfold endedB at h;rw[(hx5 hXX).1,(x1 hXX).1.N]at h;simp at h
 have HX5:=Hd (λh=>(hx5 h).2);clear hst hx5 x1 x2 x3;generalize wc=w5 at *;have b_rb:=HS5.out.box (b:=rb) (T:=44) (v:=ptrV E.gr) t2;go_wp2_with fail;refine mQ (fQ HF.out HS5.out.r) HS5 λw6 HS6=>?_;clear HS5 b_rb;have b_rb:=HS6.out.box (b:=rb) (T:=44) (v:=ptrV E.gr) t2;cases hen:endedB E i5 with
 |false =>
  go_wp2_with fail;refine(fR HS6.out.r).mono ?_;rintro e w7 ⟨rfl,hb⟩;exact HD.out (HXE.out hen) _ _ _ _ _ _ _ (yFe (HS6.out.ext hb)) i5 Z _ rfl rfl
 |true =>
  have c_nb:=HS6.out.cell (b:=nb) (T:=41) (cs:=#[ptrV g5]) t1 0;have c_f0:=HS6.out.cell (b:=fb) (T:=25) (cs:=#[.int .i64 0,.int .i64 0]) t0 0;have c_f1:=HS6.out.cell (b:=fb) (T:=25) (cs:=#[.int .i64 0,.int .i64 0]) t0 1;simp only[List.size_toArray,lC,lN,List.getElem?_toArray,List.getElem?_cons_zero,List.getElem?_cons_succ]at c_nb c_f0 c_f1;obtain⟨n0,nz⟩:=c_nb;obtain⟨f0,fz0⟩:=c_f0;obtain⟨f1,fz1⟩:=c_f1;have e1:fb≠nb:=HS6.out.ne t0 rfl rfl;have m5:nb≠fb:=Ne.symm e1;clear hen HXE;go_upto_region 14 with(fail);go_region;go_wp2_with fail;exact HO.out _ _ _ _ _ _ _ _ _ _ ((((HS6.out.put [.raw fb (fltO 0 0)] 0 (ptrV g5)).put [] 0 (.int .i64 0)).put [] 1 (.int .i64 0)).ext (bR _ _).drew) hp5 HX5.out HG5.out _ rfl rfl
end
end Go.Proofs.YtfpjdpdmgceciaaGreatDoor
