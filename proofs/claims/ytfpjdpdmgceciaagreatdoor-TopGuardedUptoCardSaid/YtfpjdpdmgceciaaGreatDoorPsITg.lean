/- Layer 12: is a field a name alone? -/
import Derived.Test.YtfpjdpdmgceciaaGreatDoorUntilTg
import Derived.Test.YtfpjdpdmgceciaaGreatDoorPsDTg
import Derived.Laws.EntriesVeiled
import Derived.Test.YtfpjdpdmgceciaaGreatDoorCoreTg
namespace Go.Proofs.YtfpjdpdmgceciaaGreatDoor
set_option maxRecDepth 100000
set_option maxHeartbeats 32000000
set_option linter.all false
attribute [local irreducible] Calls
attribute [local irreducible] wpStill
open Go.RowKit
section
variable {E:SynE} {W:World} {j:Nat} {I:List Item}
def AA(E:SynE)(W W':World):Prop:=Below W.heap.size W W'/\BoxR E W.heap.size W'
theorem AA.next{a b:World}(h:AA E W a)(hb:Below a.heap.size a b):AA E W b:=⟨zD h.1 hb,keeps hb h.2⟩
theorem AA.start(E:SynE)(W:World):AA E W (W.alloc (.cells #[ptrV E.gr] 44)):=⟨(bR _ _).alloc (nR _) _,heap_alloc_new _ _⟩
theorem zMp(F:SynF E)(h:Rd E W j):Calls Tryz.prog 146 #[ptrV E.gr] W (QB W):=by
 have HQ:=Hd (λW' b (hb:Below W.heap.size W W')=>QB.mk (W:=W) b hb);have hle:=h.le;have hjb:(j:Int)<=1000000:=by have:=F.n;unfold SynE.N at *;omega
 have CN:=Hd (λW' (hb:AA E W W')=>xS F (h.ext hb.1) j (h.jn F));have CW:=Hd (λW' (hb:Below W.heap.size W W') i hi=>yX F (h.ext hb) i hi);have CA:=Hd (λW' (hb:AA E W W')=>zId F (h.ext hb.1) (j+1) Z);have CS:=Hd (λW' (hb:AA E W W') i hi=>zWz F (h.ext hb.1) W.heap.size hb.2 i hi);have CX:=Hd (λa e b h=>QA.out (W:=a) (e:=e) (W':=b) h);have CQ:=Hd (λa e b h=>QB.out (W:=a) (e:=e) (W':=b) h);have HF0:=Hd (λW' (hb:AA E W W')=>And.intro hb.2.c (h.ext hb.1).c3);have HF:=Hd (λW' (hb:AA E W W')=>And.intro hb.2.c (And.intro (h.ext hb.1).c3 (Hd hb)));have HK:=Hd (λa b (h1:AA E W a) (h2:Below a.heap.size a b)=>h1.next h2);have HD:=Hd (λa (h1:AA E W a)=>h1.next (bR _ _).drew);have H1:=Hd (AA.start E W);have w1:=wi64 ((j:Int)+1) Z;rw[show(((j+1:Nat):Int))=(j:Int)+1 by omega]at CA;have k1:-1000000000<=(j:Int)+1/\(j:Int)+1<=1000000000:=Z;have CW1:=Hd (λW' hb=>CW.out W' hb ((j:Int)+1) k1);have CS1:=Hd (λW' hb=>CS.out W' hb ((j:Int)+1) k1);have hmf:∀(fn:Fn)(first cap:Array Value)(w:World),(Instr.makeFunc fn first cap).run Tryz.prog w=.ok (.func fn first cap) w:=λ_ _ _ _=>rfl;generalize QB W=Q at *;generalize wordZ E ((j:Int)+1)=y at *;generalize namedB E (j:Int)=n1 at *;clear h F k1 CW;go_enter Tryz.func146,Tryz.ntmps146;go_upto_region 2 with(fail);generalize W.alloc (.cells #[ptrV E.gr] 44)=W1 at *;obtain⟨b0,b3⟩:=HF0.out _ H1.out;go_still_tail 5,Oa;go_wp2_with fail;refine(CN.out _ (HD.out _ H1.out)).mono ?_;rintro e w2 ⟨rfl,hb⟩;have H2:=Hd (HK.out _ _ (HD.out _ H1.out) hb);clear hb b0 b3 CN;cases n1 with
 |false =>
  go_wp2_with fail;exact HQ.out _ _ H2.out.1
 |true =>
 go_upto_region 4 with(fail);refine wp_region_noPanic ?_;refine wp_region_held_drew (S:=λW'=>W'.cell? ⟨W.heap.size,0,none⟩=some (ptrV E.gr)/\W'.cell? ⟨E.gr,3,none⟩=some (.int .i64 (j:Int))/\Hid (AA E W W')) Oa (HF.out _ (HD.out _ H2.out)) (λhHeldR=>?_);refine tH 0 15 hHeldR ?_;refine tH 1 16 hHeldR ?_;refine tH 2 17 hHeldR ?_;refine tH 3 18 hHeldR ?_;refine tH 4 19 hHeldR ?_;refine tH 5 20 hHeldR ?_;refine rH 6 _ λK hK=>?_;go_simp;refine(CA.out _ (HD.out _ H2.out)).mono ?_;intro e w4 h4;obtain⟨q,ok,rfl,hq,hb⟩:=CX.out _ _ _ h4;have H4:=Hd (HK.out _ _ (HD.out _ H2.out) hb);clear hb h4 CA;(try dsimp only)
 refine hK.out _ _ (HF.out _ H4.out) (λhHeldR_1=>?_);clear hK K hHeldR;(try simp only[qA,qL,qZ,qS])
 refine tH 7 14 hHeldR_1 ?_;refine tH 8 22 hHeldR_1 ?_;refine tH 9 23 hHeldR_1 ?_;refine tH 10 4 hHeldR_1 ?_;refine tH 11 5 hHeldR_1 ?_;refine wpAnyH_done Oa ?_ _;refine NoPanic.normal ?_;have CSQ:=Hd (λW' h'=>CS.out W' h' q hq);clear CS;go_upto_region 5 with(fail);refine wp_region_noPanic ?_;refine wp_region_held_drew (S:=λW'=>W'.cell? ⟨W.heap.size,0,none⟩=some (ptrV E.gr)/\W'.cell? ⟨E.gr,3,none⟩=some (.int .i64 (j:Int))/\Hid (AA E W W')) Oa (HF.out _ (HD.out _ H4.out)) (λhHeld=>?_);refine tH 0 24 hHeld ?_;refine tH 1 25 hHeld ?_;refine tH 2 26 hHeld ?_;refine tH 3 27 hHeld ?_;refine tH 4 28 hHeld ?_;refine tH 5 29 hHeld ?_;refine rH 6 _ λK hK=>?_;go_simp;refine(CS1.out _ ((HD.out _ H4.out))).mono ?_;intro e w5a h5;obtain⟨ba,rfl,hb5⟩:=CQ.out _ _ _ h5;clear h5;have H5a:=Hd (HK.out _ _ (HD.out _ H4.out) hb5);clear hb5;(try dsimp only)
 refine hK.out _ _ (HF.out _ H5a.out) (λhHeld_1=>?_);clear hK K hHeld;(try simp only[qA,qL,qZ,qS])
 cases ba with
 |true =>
  refine tH 7 31 hHeld_1 ?_;refine sH 8 32 hHeld_1 ?_;refine sH 9 33 hHeld_1 ?_;refine sH 10 34 hHeld_1 ?_;refine sH 11 35 hHeld_1 ?_;refine sH 12 36 hHeld_1 ?_;refine sH 13 37 hHeld_1 ?_;refine sH 14 38 hHeld_1 ?_;refine sH 15 39 hHeld_1 ?_;refine tH 16 40 hHeld_1 ?_;refine tH 17 41 hHeld_1 ?_;refine sH 18 42 hHeld_1 ?_;refine sH 19 43 hHeld_1 ?_;refine sH 20 44 hHeld_1 ?_;refine sH 21 45 hHeld_1 ?_;refine sH 22 46 hHeld_1 ?_;refine sH 23 47 hHeld_1 ?_;refine tH 24 48 hHeld_1 ?_;refine tH 25 2 hHeld_1 ?_;have HX:=H5a;refine wpAnyH_done Oa ?_ _;refine NoPanic.normal ?_;go_wp2_with fail;exact HQ.out _ _ HX.out.1
 |false =>
  refine tH 7 31 hHeld_1 ?_;refine tH 8 32 hHeld_1 ?_;refine tH 9 33 hHeld_1 ?_;refine tH 10 34 hHeld_1 ?_;refine tH 11 35 hHeld_1 ?_;refine tH 12 36 hHeld_1 ?_;refine tH 13 37 hHeld_1 ?_;refine rH 14 _ λK hK=>?_;go_simp;refine(CW1.out _ H5a.out.1).mono ?_;intro e w5b h5;obtain⟨rfl,hb5⟩:=h5;have H5b:=Hd (HK.out _ _ H5a.out hb5);clear hb5;(try dsimp only)
  refine hK.out _ _ (HF.out _ H5b.out) (λhHeldF_2=>?_);clear hK K hHeld_1;(try simp only[qA,qL,qZ,qS])
  cases hy:(y.toList==[46])with
  |true =>
   refine tH 15 39 hHeldF_2 ?_;refine tH 16 40 hHeldF_2 ?_;refine tH 17 41 hHeldF_2 ?_;refine sH 18 42 hHeldF_2 ?_;refine sH 19 43 hHeldF_2 ?_;refine sH 20 44 hHeldF_2 ?_;refine sH 21 45 hHeldF_2 ?_;refine sH 22 46 hHeldF_2 ?_;refine sH 23 47 hHeldF_2 ?_;refine tH 24 48 hHeldF_2 ?_;refine tH 25 2 hHeldF_2 ?_;have HX:=H5b;refine wpAnyH_done Oa ?_ _;refine NoPanic.normal ?_;go_wp2_with fail;exact HQ.out _ _ HX.out.1
  |false =>
   refine tH 15 39 hHeldF_2 ?_;refine tH 16 40 hHeldF_2 ?_;refine tH 17 41 hHeldF_2 ?_;refine tH 18 42 hHeldF_2 ?_;refine tH 19 43 hHeldF_2 ?_;cases ok with
   |false =>
    refine sH 20 44 hHeldF_2 ?_;refine sH 21 45 hHeldF_2 ?_;refine sH 22 46 hHeldF_2 ?_;refine tH 23 47 hHeldF_2 ?_;refine tH 24 48 hHeldF_2 ?_;refine tH 25 2 hHeldF_2 ?_;have HX:=H5b;refine wpAnyH_done Oa ?_ _;refine NoPanic.normal ?_;go_wp2_with fail;exact HQ.out _ _ HX.out.1
   |true =>
    refine tH 20 44 hHeldF_2 ?_;refine tH 21 45 hHeldF_2 ?_;refine rH 22 _ λK hK=>?_;go_simp;refine(CSQ.out _ H5b.out).mono ?_;intro e w5c h5;obtain⟨bc,rfl,hb5⟩:=CQ.out _ _ _ h5;clear h5;have H5c:=Hd (HK.out _ _ H5b.out hb5);clear hb5;(try dsimp only)
    refine hK.out _ _ (HF.out _ H5c.out) (λhHeldO_3=>?_);clear hK K hHeldF_2;(try simp only[qA,qL,qZ,qS])
    refine tH 23 47 hHeldO_3 ?_;refine tH 24 48 hHeldO_3 ?_;refine tH 25 2 hHeldO_3 ?_;have HX:=H5c;refine wpAnyH_done Oa ?_ _;refine NoPanic.normal ?_;go_wp2_with fail;exact HQ.out _ _ HX.out.1
end
section
variable {E:SynE} {W:World} {j:Nat} {I:List Item} {F:Nat->Prop}
theorem PNk.ret{W':World}{g k i:Nat}{gs:List Nat}{ps:List Prt}{a:Int}{κ:List Prt->Prop}(h:St E W' i (.done g k gs ps::I))(hj:j<=i)(hz:(ps.length:Int)<=8*((i:Int)-j)+a)(hk:κ ps):PNk E I j a κ (.returned (ptrV g)) W':=by
 unfold PNk;exact Or.inl ⟨g,k,gs,ps,i,rfl,h,hj,hz,hk⟩
theorem PNk.pan{W':World}{i:Nat}{a:Int}{κ:List Prt->Prop}(h:St E W' i I):PNk E I j a κ (panE i) W':=by
 unfold PNk;exact Or.inr ⟨i,rfl,h⟩
theorem PNd.ret{W':World}{g k i:Nat}{gs:List Nat}{ps:List Prt}{a:Int}(h:St E W' i (.done g k gs ps::I))(hj:j<=i)(hz:(ps.length:Int)<=8*((i:Int)-j)+a):PNd E I j a (.returned (ptrV g)) W':=PNk.ret h hj hz trivial
theorem PNd.pan{W':World}{i:Nat}{a:Int}(h:St E W' i I):PNd E I j a (panE i) W':=PNk.pan h
theorem PNk.out{W':World}{e:Ending}{a:Int}{κ:List Prt->Prop}(h:PNk E I j a κ e W'):(∃g k gs ps,∃i:Nat,e=.returned (ptrV g)/\St E W' i (.done g k gs ps::I)/\j<=i/\(ps.length:Int)<=8*((i:Int)-j)+a/\κ ps)\/(∃i:Nat,e=panE i/\St E W' i I):=by
 unfold PNk at h;exact h
theorem PNd.out{W':World}{e:Ending}{a:Int}{κ:List Prt->Prop}(h:PNk E I j a κ e W'):(∃g k gs ps,∃i:Nat,e=.returned (ptrV g)/\St E W' i (.done g k gs ps::I)/\j<=i/\(ps.length:Int)<=8*((i:Int)-j)+a)\/(∃i:Nat,e=panE i/\St E W' i I):=by
 rcases h.out with⟨g,k,gs,ps,i,h1,h2,h3,h4,_⟩|h
 .exact Or.inl ⟨g,k,gs,ps,i,h1,h2,h3,h4⟩
 .exact Or.inr h
theorem zBl(h:St E W j I){g k:Nat}{gs:List Nat}{ps:List Prt}(hm:.done g k gs ps∈I):Calls Tryz.prog 224 #[ptrV E.gr,ptrV g] W (PNd E I j (ps.length:Int)):=by
 have CF:=Hd (fR h.r);have hg:Good E W (FrB E W I) g k gs ps:=h.ok _ hm;obtain⟨w,f,t,v,c0,-,-,-,-,-,-,hk,-⟩:=hg.c;by_cases h50:k=50
 .subst h50;obtain⟨b,c,d4,hc,d,k',ks,p,G,hp⟩:=hg.kid (i:=0) (by have:=hk.2;unfold leastK at this;simp at this;omega);have hpos:(0:Int)<gs.length:=by have:=hk.2;unfold leastK at this;simp at this;omega
  have hpn:0<gs.length:=Z;have HQ:Hid (PNd E I j (ps.length:Int) (.returned (ptrV (gs[0]'hpn))) W):=Hd (PNd.ret (h.again G) (nR _) Z);generalize gs[0]'hpn=y at *;generalize PNd E I j (ps.length:Int)=Q at *;clear h hg G CF hm;go_enter Tryz.func224,Tryz.ntmps224;go_wp2_with fail;exact HQ.out
 .have n50:((k:Int)==50)=false:=by simp;omega
  have n50':((k:Int) != 50)=true:=by simp;omega
  have HQ:=Hd (λW' (hb:Below W.heap.size W W')=>PNd.pan (j:=j) (a:=(ps.length:Int)) (h.ext hb));generalize PNd E I j (ps.length:Int)=Q at *;clear h hg hm;go_enter Tryz.func224,Tryz.ntmps224;go_wp2_with fail;refine CF.out.mono ?_;rintro e w2 ⟨rfl,hb⟩;exact⟨rfl,HQ.out _ hb⟩
theorem zPp:∀{l:List (List Prt)}{i k:Nat}(hi:i<k)(hk:k<l.length),(l[i]'Z).length+l[k].length<=l.flatten.length
 |[],i,k,hi,hk=>by simp at hk
 |y::l,0,k+1,hi,hk=>by
  have:=zDs (gM (l:=l) (n:=k) (by simpa using hk));simp only[List.getElem_cons_zero,List.getElem_cons_succ,List.flatten_cons,lA];omega
 |y::l,i+1,k+1,hi,hk=>by
  have:=zPp (l:=l) (i:=i) (k:=k) Z (by simpa using hk);simp only[List.getElem_cons_succ,List.flatten_cons,lA];omega
theorem Good.two{g k:Nat}{gs:List Nat}{ps:List Prt}(h:Good E W F g k gs ps)(hi:1<gs.length):∃b c,W.cell? ⟨g,4,none⟩=some (.slice (some ⟨b,0,none⟩) gs.length c)/\gs.length<=c/\W.cell? ⟨b,0,none⟩=some (ptrV gs[0])/\W.cell? ⟨b,1,none⟩=some (ptrV gs[1])/\∃k0 ks0 p0 k1 ks1 p1,Good E W F gs[0] k0 ks0 p0/\Good E W F gs[1] k1 ks1 p1/\p0.length+p1.length+1<=ps.length:=by
 obtain⟨w,f,t,v,ps',hF,hc,hw,hk,hr,⟨pss,hl,hpf,hG⟩,hps⟩:=h.open';obtain⟨k0,ks0,G0⟩:=hG 0 Z Z;obtain⟨k1,ks1,G1⟩:=hG 1 Z Z;have h2:=zPp (l:=pss) (i:=0) (k:=1) Z Z;rcases hr.1.2 with⟨_,hn⟩|⟨b,cap,cur,rfl,_,hh,hnc,_⟩
 .omega
 .refine⟨b,cap,by simp[World.cell?,hc],hnc,?_,?_,k0,ks0,_,k1,ks1,_,G0,G1,by rw[hps,hpf];simp only[lC];omega⟩
  .rw[hr.1.cellAt 0 Z];unfold ptrsV;simp[show 0<gs.length by omega]
  .rw[hr.1.cellAt 1 Z];unfold ptrsV;simp[hi]
@[irreducible] def PA(E:SynE)(I:List Item)(j m:Nat)(e:Ending)(W':World):Prop :=
 (e=.returned (.tuple #[.pointer none,.pointer none])/\St E W' j I)\/
 (∃a ka ga pa b kb gb pb,e=.returned (.tuple #[ptrV a,ptrV b])/\St E W' j (.done a ka ga pa::.done b kb gb pb::I)/\pa.length+pb.length<=m)
theorem zEx(F':SynF E)(h:St E W j I){g k:Nat}{gs:List Nat}{ps:List Prt}(hm:.done g k gs ps∈I):Calls Tryz.prog 226 #[ptrV E.gr,ptrV g] W (PA E I j ps.length):=by
 have hg:Good E W (FrB E W I) g k gs ps:=h.ok _ hm;obtain⟨w,f,t,v,c0,c1,c2,-,-,-,hw,hk,hgl⟩:=hg.c;have HN:=Hd (λW' (hb:Below W.heap.size W W')=>(show PA E I j ps.length (.returned (.tuple #[.pointer none,.pointer none])) W' from by unfold PA;exact Or.inl ⟨rfl,h.ext hb⟩));have H0:=Hd (bR W.heap.size W);have HE:=Hd h;by_cases h50:k=50
 .subst h50;obtain⟨b,c,d4,hc,d,ky,ksy,py,G,hp⟩:=hg.kid (i:=0) (by have:=hk.2;unfold leastK at this;simp at this;omega);have hpos:(0:Int)<gs.length:=by have:=hk.2;unfold leastK at this;simp at this;omega
  have hpn:0<gs.length:=Z;obtain⟨_,_,_,_,e0,-,-,-,-,-,-,hky,hyl⟩:=G.c;generalize gs[0]'hpn=y at *;by_cases h33:ky=33
  .subst h33;obtain⟨b2,c3,e4,hc2,d2,kz,ksz,pz,Gz,hpz⟩:=G.kid (i:=0) (by have:=hky.2;unfold leastK at this;simp at this;omega);have hpos2:(0:Int)<ksy.length:=by have:=hky.2;unfold leastK at this;simp at this;omega
   have hpn2:0<ksy.length:=Z;generalize ksy[0]'hpn2=z at *;have HY:Hid (PA E I j ps.length (.returned (.tuple #[ptrV W.heap.size,ptrV z])) ((W.alloc (nodeC 0 (-1) f f (.slice none 0 0))).drew)):=Hd (by
    have h2:=((h.again Gz).new (nodeC 0 (-1) f f (.slice none 0 0))).ext (bR _ _).drew;have h3:=h2.done0 ⟨Z,Z⟩ V;unfold PA;exact Or.inr ⟨_,_,_,_,_,_,_,_,rfl,h3,by simp only[lC,lN];omega⟩)
   have hb1:=World.block_lt_of_cell? W ⟨b,0,none⟩ d;have hb2:=World.block_lt_of_cell? W ⟨b2,0,none⟩ d2;simp only[]at hb1 hb2;generalize PA E I j ps.length=Q at *;clear h hg G Gz hm HE HN;go_enter Tryz.func226,Tryz.ntmps226;have HS:Hid (∀W',Below W.heap.size W W'->W'.cell? ⟨g,2,none⟩=some (.int .i64 f)/\W'.cell? ⟨g,4,none⟩=some (.slice (some ⟨b,0,none⟩) gs.length c)/\W'.cell? ⟨b,0,none⟩=some (ptrV y)/\W'.cell? ⟨y,4,none⟩=some (.slice (some ⟨b2,0,none⟩) ksy.length c3)/\W'.cell? ⟨b2,0,none⟩=some (ptrV z)):=Hd (λW' hb=>⟨by rw[hb.cell (p:=⟨g,2,none⟩) hgl];exact c2,by rw[hb.cell (p:=⟨g,4,none⟩) hgl];exact d4,by rw[hb.cell (p:=⟨b,0,none⟩) hb1];exact d,by rw[hb.cell (p:=⟨y,4,none⟩) hyl];exact e4,by rw[hb.cell (p:=⟨b2,0,none⟩) hb2];exact d2⟩);go_wp2_with fail;clear c2 d4 d e4 d2 c0 e0
   go_region_held3 (λW'=>W'.cell? ⟨g,2,none⟩=some (.int .i64 f)/\W'.cell? ⟨g,4,none⟩=some (.slice (some ⟨b,0,none⟩) gs.length c)/\W'.cell? ⟨b,0,none⟩=some (ptrV y)/\W'.cell? ⟨y,4,none⟩=some (.slice (some ⟨b2,0,none⟩) ksy.length c3)/\W'.cell? ⟨b2,0,none⟩=some (ptrV z)) (first|exact HS.out _ (bR _ _).drew|exact HS.out _ ((bR _ _).drew.alloc (nR _) _)|exact HS.out _ ((bR _ _).alloc (nR _) _).drew) (fail)
   go_wp2_with fail;exact HY.out
  .have n33:((ky:Int)==33)=false:=by simp;omega
   generalize PA E I j ps.length=Q at *;clear h hg G hm HE;go_enter Tryz.func226,Tryz.ntmps226;go_wp2_with fail;exact HN.out _ H0.out
 .have n50:((k:Int)==50)=false:=by simp;omega
  by_cases h53:k=53
  .subst h53;obtain⟨b,c,d4,hc,d0,d1,kA,gA,pA,kB,gB,pB,GA,GB,hp⟩:=hg.two (by have:=hk.2;unfold leastK at this;simp at this;omega);have hpn:1<gs.length:=by have:=hk.2;unfold leastK at this;simp at this;omega
   have hpn0:0<gs.length:=Z;have hpos:(1:Int)<gs.length:=Z;have hpos0:(0:Int)<gs.length:=Z;obtain⟨_,_,_,vA,a0,-,-,-,a4,⟨aA,cA,rfl⟩,-,hkA,hlA⟩:=GA.c;obtain⟨_,_,_,vB,b0,-,-,-,b4,⟨aB,cB,rfl⟩,-,hkB,hlB⟩:=GB.c;have hb1:=World.block_lt_of_cell? W ⟨b,0,none⟩ d0;simp only[]at hb1;have hNl:(E.N:Int)<=1000000:=by have:=F'.n;unfold SynE.N;omega
   have CW:=Hd (λW' (hb:Below W.heap.size W W')=>yX F' (h.r.ext hb) w Z);have HC:=Hd (λW' (hb:Below W.heap.size W W')=>And.intro ((hb.cell (p:=⟨g,4,none⟩) hgl).trans d4) (And.intro ((hb.cell (p:=⟨b,0,none⟩) hb1).trans d0) (And.intro ((hb.cell (p:=⟨b,1,none⟩) hb1).trans d1) (And.intro ((hb.cell (p:=⟨gs[0],4,none⟩) hlA).trans a4) ((hb.cell (p:=⟨gs[1],4,none⟩) hlB).trans b4)))));cases hx:((wordZ E w).toList==[58,61])with
   |false =>
    generalize wordZ E w=x at *;generalize PA E I j ps.length=Q at *;clear h hg GA GB hm HE d4 d0 d1 a0 a4 b0 b4 c2 HC;go_enter Tryz.func226,Tryz.ntmps226;go_wp2_with fail;refine(CW.out _ H0.out).mono ?_;rintro e w1 ⟨rfl,hb⟩;have H1:=Hd hb;clear hb;go_wp2_with fail;exact HN.out _ H1.out
   |true =>
   by_cases hA1:gA.length=1
   .by_cases hB1:gB.length=1
    .obtain⟨bA,cA',a4',hcA,aa,kx,gx,px,GX,hpx⟩:=GA.kid (i:=0) Z;obtain⟨bB,cB',b4',hcB,bb,ky,gy,py,GY,hpy⟩:=GB.kid (i:=0) Z;rw[a4]at a4';rw[b4]at b4';simp only[Option.some.injEq,Value.slice.injEq,true_and]at a4' b4';obtain⟨rfl,rfl⟩:=a4';obtain⟨rfl,rfl⟩:=b4';obtain⟨_,_,_,_,x0,-,-,-,-,-,-,-,hlx⟩:=GX.c;obtain⟨_,_,_,vy,y0,-,-,-,y4,⟨ay,cy,rfl⟩,-,hky,hly⟩:=GY.c;have hbA:=World.block_lt_of_cell? W ⟨bA,0,none⟩ aa;have hbB:=World.block_lt_of_cell? W ⟨bB,0,none⟩ bb;simp only[]at hbA hbB;have HC2:=Hd (λW' (hb:Below W.heap.size W W')=>And.intro ((hb.cell (p:=⟨bA,0,none⟩) hbA).trans aa) (And.intro ((hb.cell (p:=⟨bB,0,none⟩) hbB).trans bb) (And.intro ((hb.cell (p:=⟨gA[0],0,none⟩) hlx).trans x0) (And.intro ((hb.cell (p:=⟨gB[0],0,none⟩) hly).trans y0) ((hb.cell (p:=⟨gB[0],4,none⟩) hly).trans y4)))));have HY2:Hid (∀(hky:ky=33),∃bz cz z,ay=some ⟨bz,0,none⟩/\gy.length<=cy/\0<gy.length/\bz<W.heap.size/\W.cell? ⟨bz,0,none⟩=some (ptrV z)/\cz=cy/\∀W',Below W.heap.size W W'->PA E I j ps.length (.returned (.tuple #[ptrV gA[0],ptrV z])) W'):=Hd (λh33=>by
      subst h33;have hl1:0<gy.length:=by have:=hky.2;unfold leastK at this;simp at this;omega
      obtain⟨bz,cz,z4,hcz,zz,kz,gz,pz,GZ,hpz⟩:=GY.kid (i:=0) hl1;rw[y4]at z4;simp only[Option.some.injEq,Value.slice.injEq,true_and]at z4;obtain⟨rfl,rfl⟩:=z4;refine⟨bz,cy,gy[0],rfl,hcz,hl1,World.block_lt_of_cell? W ⟨bz,0,none⟩ zz,zz,rfl,λW' hb=>?_⟩;have s1:=h.again GZ;have s2:=s1.again (GX.to (λb hf=>⟨rfl,hf.1,hf.2.1,λy hy=>by
       rcases List.mem_cons.1 hy with rfl|hy
       .intro e;cases e
       .exact hf.2.2 y hy⟩))
      unfold PA;exact Or.inr ⟨_,_,_,_,_,_,_,_,rfl,s2.ext hb,Z⟩)
     rw[hA1]at *;rw[hB1]at *;generalize gA[0]=x1 at *;generalize gB[0]=x2 at *;generalize gs[0]=k0 at *;generalize gs[1]=k1 at *;generalize wordZ E w=x at *;generalize PA E I j ps.length=Q at *;clear h hg GA GB GX GY hm HE d4 d0 d1 a0 a4 b0 b4 c2 aa bb x0 y0 y4 hA1 hB1;go_enter Tryz.func226,Tryz.ntmps226;go_wp2_with fail;refine(CW.out _ H0.out).mono ?_;rintro e w1 ⟨rfl,hb⟩;have H1:=Hd hb;obtain⟨m1,m2,m3,m4,m5⟩:=HC.out _ hb;obtain⟨n1,n2,n3,n4,n5⟩:=HC2.out _ hb;clear hb;go_wp2_with fail;go_quiet (fail);have H2:=Hd (below_drewN H1.out nq);by_cases hx26:kx=26
     .subst hx26;by_cases hy33:ky=33
      .obtain⟨bz,cz,z,rfl,hz1,hz2,hz3,hz4,rfl,hz5⟩:=HY2.out hy33;subst hy33;have o1:w1.cell? ⟨bz,0,none⟩=some (ptrV z):=(H1.out.cell (p:=⟨bz,0,none⟩) hz3).trans hz4;have hz2I:(0:Int)<gy.length:=Z;have HZ:=Hd hz5;clear hz5 hz4 HY2;go_wp2_with fail;go_quiet (fail);have H3:=Hd (below_drewN H2.out nq);go_wp2_with fail;exact HZ.out _ H3.out
      .have n33:((ky:Int)==33)=false:=by simp;omega
       clear HY2;go_wp2_with fail;exact HN.out _ H2.out
     .have n26:((kx:Int)==26)=false:=by simp;omega
      clear HY2;go_wp2_with fail;exact HN.out _ H2.out
    .have nB:((gB.length:Int)==1)=false:=by simp;omega
     rw[hA1]at *;generalize gs[0]=k0 at *;generalize gs[1]=k1 at *;generalize wordZ E w=x at *;generalize PA E I j ps.length=Q at *;clear h hg GA GB hm HE d4 d0 d1 a0 a4 b0 b4 c2 hA1 hB1;go_enter Tryz.func226,Tryz.ntmps226;go_wp2_with fail;refine(CW.out _ H0.out).mono ?_;rintro e w1 ⟨rfl,hb⟩;have H1:=Hd hb;obtain⟨m1,m2,m3,m4,m5⟩:=HC.out _ hb;clear hb;go_wp2_with fail;all_goals exact HN.out _ H1.out
   .have nA:((gA.length:Int)==1)=false:=by simp;omega
    generalize gs[0]=k0 at *;generalize gs[1]=k1 at *;generalize wordZ E w=x at *;generalize PA E I j ps.length=Q at *;clear h hg GA GB hm HE d4 d0 d1 a0 a4 b0 b4 c2 hA1;go_enter Tryz.func226,Tryz.ntmps226;go_wp2_with fail;refine(CW.out _ H0.out).mono ?_;rintro e w1 ⟨rfl,hb⟩;have H1:=Hd hb;obtain⟨m1,m2,m3,m4,m5⟩:=HC.out _ hb;clear hb;go_wp2_with fail;all_goals exact HN.out _ H1.out
  .have n53:((k:Int)==53)=false:=by simp;omega
   generalize PA E I j ps.length=Q at *;clear h hg hm HE;go_enter Tryz.func226,Tryz.ntmps226;go_wp2_with fail;exact HN.out _ H0.out
end
def FnV(v:Value)(k:FuncId)(args:Array Value):Prop:=(v=.func (.func k) args #[]\/v=.func (.func k) #[] args)/\∀(args:Array Value)(w:World),(callFunc k args).run Tryz.prog w=.ok (.enter k args) w
theorem FnV.meth {k : FuncId} {fn : Func} {c : Code} (hf : Tryz.prog.funcs[k]? = some fn) (hname : (fn.name == "runtime.NumGoroutine") = false) (hb : fn.body = some c) (args : Array Value) : FnV (.func (.func k) args #[]) k args := ⟨Or.inl rfl, fun a w => zKm hf hname hb a w⟩
theorem FnV.clos {k : FuncId} {fn : Func} {c : Code} (hf : Tryz.prog.funcs[k]? = some fn) (hname : (fn.name == "runtime.NumGoroutine") = false) (hb : fn.body = some c) (args : Array Value) : FnV (.func (.func k) #[] args) k args := ⟨Or.inr rfl, fun a w => zKm hf hname hb a w⟩
structure TightQ(E:SynE)(Q:Ending->World->Prop):Prop where
 rd:∀e W,Q e W->(∃v,e=.returned v/\∃j I,St E W j I)\/∃i,e=panE i
 put:∀v W t,Q (.returned v) W->Q (.returned v) (W.setCell ⟨E.gr,4,none⟩ (.bool t))
section
variable {E:SynE} {W:World} {j:Nat} {I:List Item}
theorem PNd.tightQ(I:List Item)(j:Nat)(a:Int){κ:List Prt->Prop}:TightQ E (PNk E I j a κ):=by
 refine⟨λe W h=>?_,λv W t h=>?_⟩
 .rcases h.out with⟨g,k,gs,ps,i,rfl,h,_⟩|⟨i,rfl,_⟩
  .exact Or.inl ⟨_,rfl,_,_,h⟩
  .exact Or.inr ⟨i,rfl⟩
 .rcases h.out with⟨g,k,gs,ps,i,e,h,h1,h2,hk⟩|⟨i,e,_⟩
  .rw[e];exact PNk.ret (h.tight t) h1 h2 hk
  .cases e
theorem vJ{Q:Ending->World->Prop}(hq:TightQ E Q){v:Value}{k:FuncId}{args:Array Value}(hv:FnV v k args)(h:St E W j I)(hc:∀W',St E W' j I->Calls Tryz.prog k args W' Q):Calls Tryz.prog 54 #[ptrV E.gr,v] W Q:=by
 have C:=Hd (hc _ (h.tight false));obtain⟨t,c4⟩:=h.r.c.2.2.2.2.1;have z4:=h.r.z 4;have HX:=Hd hq.rd;have HP:=Hd hq.put;obtain⟨hv,he⟩:=hv;clear h hc hq;rcases hv with rfl|rfl;all_goals
  go_enter Tryz.func54,Tryz.ntmps54;go_wp2_with fail;refine C.out.mono ?_;intro e w1 h1;rcases HX.out _ _ h1 with⟨u,rfl,j',I',hs⟩|⟨i,rfl⟩
  .obtain⟨t',d4⟩:=hs.r.c.2.2.2.2.1;have y4:=hs.r.z 4;have HY:=Hd (HP.out _ _ t h1);clear c4 z4 hs h1;go_wp2_with fail;exact HY.out
  .exact⟨rfl,h1⟩
theorem zPq{Q:Ending->World->Prop}(hq:TightQ E Q){v:Value}{k:FuncId}{args:Array Value}(hv:FnV v k args)(h:St E W j I)(hc:∀W',St E W' j I->Calls Tryz.prog k args W' Q):Calls Tryz.prog 223 #[ptrV E.gr,v] W Q:=by
 have C:=Hd (hc _ (h.tight true));obtain⟨t,c4⟩:=h.r.c.2.2.2.2.1;have z4:=h.r.z 4;have HX:=Hd hq.rd;have HP:=Hd hq.put;obtain⟨hv,he⟩:=hv;clear h hc hq;rcases hv with rfl|rfl;all_goals
  go_enter Tryz.func223,Tryz.ntmps223;go_wp2_with fail;refine C.out.mono ?_;intro e w1 h1;rcases HX.out _ _ h1 with⟨u,rfl,j',I',hs⟩|⟨i,rfl⟩
  .obtain⟨t',d4⟩:=hs.r.c.2.2.2.2.1;have y4:=hs.r.z 4;have HY:=Hd (HP.out _ _ t h1);clear c4 z4 hs h1;go_wp2_with fail;exact HY.out
  .exact⟨rfl,h1⟩
end
@[irreducible] def PNw(E:SynE)(I:Int->List Item)(j:Nat)(a:Int)(κ:List Prt->Prop)(e:Ending)(W':World):Prop :=
 (∃g k gs ps x,∃i:Nat,e=.returned (ptrV g)/\St E W' i (.done g k gs ps::I x)/\j<=i/\(ps.length:Int)<=8*((i:Int)-j)+a/\κ ps)\/(∃x,∃i:Nat,e=panE i/\St E W' i (I x))
@[irreducible] def PR(E:SynE)(I:Int->List Item)(x0:Int)(shut:List UInt8)(j:Nat)(κ:List Prt->Prop)(e:Ending)(W':World):Prop :=
 (∃v gs ps x,∃i:Nat,e=.returned v/\(∃a n c,v=.slice a n c)/\St E W' i (.row v gs ps::I x)/\isW E i shut=true/\j<i/\(ps.length:Int)<=8*((i:Int)-j)-8/\gs.length<=i-j/\RowK κ gs.length ps/\(gs.length=0->x=x0/\isW E (j+1) shut=true))\/(∃x,∃i:Nat,e=panE i/\St E W' i (I x))
section
variable {E:SynE} {W:World} {j:Nat} {I:List Item} {κ:List Prt->Prop}
theorem PNw.of{a:Int}{e:Ending}{W':World}(h0:PNk E I j a κ e W'):PNw E (λ_=>I) j a κ e W':=by
 unfold PNw;rcases h0.out with⟨g,k,gs,ps,i,rfl,h,h1,h2,hk⟩|⟨i,rfl,h⟩
 .exact Or.inl ⟨g,k,gs,ps,0,i,rfl,h,h1,h2,hk⟩
 .exact Or.inr ⟨0,i,rfl,h⟩
theorem St.append1(A:List Item){v:Value}{gs:List Nat}{ps:List Prt}(h:St E W j (A++.row v gs ps::I)){g k:Nat}{ks:List Nat}{p:List Prt}(hg:.done g k ks p∈A++.row v gs ps::I)(hl:gs.length+1<=1000000000) :
  ∃v' w',(Builtin.append_ #[48,48] 48 #[v,.slice (some ⟨W.heap.size,0,none⟩) 1 1]).run Tryz.prog (W.alloc (.cells #[ptrV g] 41))=.ok v' w'/\St E w' j (A++.row v' (gs++[g]) (ps++p)::I)/\∃a n c,v'=.slice a n c:=by
 have h1:=h.ext ((bR _ _).alloc (nR _) (.cells #[ptrV g] 41));have hg1:Good E (W.alloc (.cells #[ptrV g] 41)) (FrB E (W.alloc (.cells #[ptrV g] 41)) (A++.row v gs ps::I)) g k ks p:=h1.ok _ hg;have:=St.append A h1 (.slice (some ⟨W.heap.size,0,none⟩) 1 1) [g] p ⟨rfl,some ⟨W.heap.size,0,none⟩,1,rfl,nR _,(λe=>by cases e),λ_=>⟨W.heap.size,0,rfl,Ob,λi hi=>by
  obtain rfl:i=0:=by simp at hi;omega
  rw[World.cell?_alloc_at _ _ _ _ rfl];rfl⟩⟩ (by have:=GoodS.cons hg1 (GoodS.nil _ _ _);simpa using this) (by simpa using hl)
 exact this
def rdAt(E:SynE)(W:World):Nat:=match W.cell? ⟨E.gr,3,none⟩with
 |some (.int _ q)=>q.toNat
 |_=>0
theorem St.rdAt(h:St E W j I):rdAt E W=j:=by unfold Go.Proofs.YtfpjdpdmgceciaaGreatDoor.rdAt;rw[h.r.c3];simp
def rwMu(E:SynE)(shut:List UInt8)(W:World):Nat:=2*(E.N-rdAt E W)+(if isW E (rdAt E W) shut then 0 else 1)
@[irreducible] def rwRel(E:SynE)(I:Int->List Item)(x0:Int)(shut:List UInt8)(j:Nat)(κ:List Prt->Prop)(kv:Value)(W:World):Prop :=
 ∃gs ps x,∃i:Nat,(∃a n c,kv=.slice a n c)/\St E W i (.row kv gs ps::I x)/\j+1<=i/\(ps.length:Int)<=8*((i:Int)-j)-8/\gs.length+j+1<=i+(if isW E i shut then 1 else 0)/\RowK κ gs.length ps/\(gs.length=0->x=x0/\i=j+1)
theorem zPr(F:SynF E)(I:Int->List Item)(x0:Int)(h:St E W j (I x0))(opn mrk shut:List UInt8)(ho:opn≠[])(hm:mrk≠[])(hs:shut≠[]){v:Value}{k:FuncId}{args:Array Value}(hv:FnV v k args)(a:Int)(ha:a<=0)(hc:∀W' i x kv gs ps,j<i->St E W' i (.row kv gs ps::I x)->Calls Tryz.prog k args W' (PNw E (λx=>.row kv gs ps::I x) i a κ)) :
  Calls Tryz.prog 108 #[ptrV E.gr,.string ⟨opn.toArray⟩,.string ⟨mrk.toArray⟩,.string ⟨shut.toArray⟩,v] W (PR E I x0 shut j κ):=by
 have CO:=Hd (zDp F h opn ho);have CN:=Hd (λW' i J (h:St E W' i J)=>gO F h.r);have CM:=Hd (λW' i J (h:St E W' i J)=>zDp F h mrk hm);have CC:=Hd hc;have HP:Hid (∀W' i x,St E W' i (I x)->PR E I x0 shut j κ (panE i) W'):=Hd (λW' i x h=>by unfold PR;exact Or.inr ⟨x,i,rfl,h⟩);have HY:Hid (∀W' kv,rwRel E I x0 shut j κ kv W'->isW E (rdAt E W') shut=true->PR E I x0 shut j κ (.returned kv) W'):=Hd (λW' kv h hw=>by
  unfold rwRel at h;obtain⟨gs,ps,x,i,h1,h2,h3,h4,h5,h6,h7⟩:=h;rw[h2.rdAt]at hw;rw[iP hw]at h5;unfold PR;exact Or.inl ⟨kv,gs,ps,x,i,rfl,h1,h2,hw,h3,h4,Z,h6,λh=>⟨(h7 h).1,(h7 h).2▸hw⟩⟩)
 have hN:E.N<=1000000:=by have:=F.n;unfold SynE.N;omega
 obtain⟨hv,he⟩:=hv;clear h hc F;generalize PR E I x0 shut j κ=Q at *;rcases hv with rfl|rfl;all_goals
  go_enter Tryz.func108,Tryz.ntmps108;go_wp2_with fail;refine CO.out.mono ?_;intro e w1 h1;unfold PW at h1;rcases h1 with⟨hok,rfl,hs1⟩|⟨hok,rfl,hs1⟩
  .have HR0:Hid (rwRel E I x0 shut j κ (.slice none 0 0) w1):=Hd (by
    unfold rwRel;exact⟨[],[],x0,j+1,⟨_,_,_,rfl⟩,hs1.nil,nR _,by simp;omega,Ob,RowK.nil,λ_=>⟨rfl,rfl⟩⟩)
   clear hs1 hok CO;go_wp2_with fail;go_loopw [11] (λkv wr=>rwRel E I x0 shut j κ kv wr) (λkv wr=>rwMu E shut wr)
   case atStart=>exact HR0.out
   case round =>
    have HRL:=Hd hrel;unfold rwRel at hrel;obtain⟨gs,ps,x,i,⟨va,vn,vc,rfl⟩,hst,hji,hps,hgs,hrk,hx0⟩:=hrel;have HX0:=Hd hx0;have HRK:=Hd hrk;have HS:=Hd hst;have HGS:=Hd hgs;have hiN:=hst.r.le;clear hst hgs HR0 hrk hx0;go_wp2_with fail;refine(CN.out _ _ _ HS.out).mono ?_;rintro e w2 ⟨rfl,hb⟩;have HS2:=Hd (HS.out.ext hb);have HB:=Hd hb;clear hb;cases hsh:isW E i shut with
    |true =>
     have HZ:Hid (Q (.returned (.slice va vn vc)) w2):=Hd (HY.out _ _ (by
      unfold rwRel;exact⟨gs,ps,x,i,⟨_,_,_,rfl⟩,HS2.out,hji,hps,HGS.out,HRK.out,HX0.out⟩) (by rw[HS2.out.rdAt];exact hsh))
     have hx:((wordZ E i).toList==shut)=true:=hsh;clear hsh HRL;generalize wordZ E i=y at *;go_wp2_with fail;exact HZ.out
    |false =>
     have hx:((wordZ E i).toList==shut)=false:=hsh;have HSH:=Hd hsh;clear hsh;generalize wordZ E i=y at *;have HM0:Hid (rwMu E shut wr=2*(E.N-i)+1):=Hd (by unfold rwMu;rw[HS.out.rdAt,HSH.out];simp);have HGL:Hid (gs.length+j+1<=i):=Hd (by have:=HGS.out;rw[HSH.out]at this;simpa using this);go_wp2_with fail;refine(CC.out _ _ _ _ _ _ Z HS2.out).mono ?_;intro e w3 h3;unfold PNw at h3;rcases h3 with⟨g,kg,ks,p,x',i',rfl,hs3,hi',hp,hkp⟩|⟨x',i',rfl,hs3⟩
     .obtain⟨v',w4,hr,hs4,a4,n4,c4,rfl⟩:=St.append1 [.done g kg ks p] hs3 (g:=g) (k:=kg) (ks:=ks) (p:=p) Ob (by have:=HGL.out;omega);have HRK2:Hid (RowK κ (gs++[g]).length (ps++p)):=Hd (by rw[lA];exact HRK.out.snoc hkp);have HRUN:=Hd hr;have HS4:=Hd (hs4.tl);have hiN':=hs3.r.le;clear hs3 hr hs4 hkp;go_wp2_with (at_builtin;refine zE rfl _ _ _ _ HRUN.out rfl rfl rfl rfl ?_);refine(CN.out _ _ _ HS4.out).mono ?_;rintro e w5 ⟨rfl,hb5⟩;have HS5:=Hd (HS4.out.ext hb5);clear hb5;cases hsh5:isW E i' shut with
      |true =>
       have HR:Hid (rwRel E I x0 shut j κ (.slice a4 n4 c4) w5):=Hd (by
        unfold rwRel;refine⟨_,_,_,_,⟨_,_,_,rfl⟩,HS5.out,Z,by rw[lA];omega,?_,HRK2.out,λh=>by simp at h⟩;rw[hsh5,lA,List.length_singleton];have:=HGL.out;simp;omega)
       have HM:Hid (rwMu E shut w5<rwMu E shut wr):=Hd (by
        rw[HM0.out];unfold rwMu;rw[HS5.out.rdAt,hsh5];simp;omega)
       have hx5:((wordZ E i').toList==shut)=true:=hsh5;clear hsh5;generalize wordZ E i'=y5 at *;go_wp2_with fail;refine⟨HR.out,HM.out⟩
      |false =>
       have hx5:((wordZ E i').toList==shut)=false:=hsh5;have HSH5:=Hd hsh5;clear hsh5;generalize wordZ E i'=y5 at *;go_wp2_with fail;refine(CM.out _ _ _ HS5.out).mono ?_;intro e w6 h6;unfold PW at h6;rcases h6 with⟨hok,rfl,hs6⟩|⟨hok,rfl,hs6⟩
       .have hiN6:=hs6.r.le;have HR:Hid (rwRel E I x0 shut j κ (.slice a4 n4 c4) w6):=Hd (by
         unfold rwRel;refine⟨_,_,_,_,⟨_,_,_,rfl⟩,hs6,Z,by rw[lA];omega,?_,HRK2.out,λh=>by simp at h⟩;rw[lA,List.length_singleton];have:=HGL.out;split<;>omega)
        have HM:Hid (rwMu E shut w6<rwMu E shut wr):=Hd (by
         rw[HM0.out];unfold rwMu;rw[hs6.rdAt];split<;>omega)
        clear hs6 hok;go_wp2_with fail;refine⟨HR.out,HM.out⟩
       .exact⟨rfl,HP.out _ _ _ hs6.tl⟩
     .exact⟨rfl,HP.out _ _ _ hs3.tl⟩
  .exact⟨rfl,HP.out _ _ _ hs1⟩
end
end Go.Proofs.YtfpjdpdmgceciaaGreatDoor
namespace Go.Proofs.YtfpjdpdmgceciaaGreatDoor
set_option linter.all false
attribute [local irreducible] Calls
open Go.RowKit
def Okk(E:SynE)(f:FuncId)(r:Nat)(a:Int)(κ:List Prt->Prop)(m:Nat):Prop:=∀W j I,St E W j I->64*(E.N-j)+r<m->Calls Tryz.prog f #[ptrV E.gr] W (PNk E I j a κ)
abbrev Ok(E:SynE)(f:FuncId)(r:Nat)(a:Int)(m:Nat):Prop:=Okk E f r a KT m
def OkN(E:SynE)(f:FuncId)(r:Nat)(a:Int)(m:Nat):Prop:=∀W j I,St E W j I->j+1<=E.N->64*(E.N-j)+r<m->Calls Tryz.prog f #[ptrV E.gr] W (PNd E I j a)
structure IH(E:SynE)(m:Nat):Prop where
 typ:Okk E 34 6 (-7) X1 m
 anyType:Okk E 55 5 (-7) X1 m
 typeName:Okk E 92 4 (-7) X1 m
 expr:Okk E 35 11 (-7) X1 m
 unary:Okk E 99 9 (-7) X1 m
 primary:Okk E 149 8 (-7) X1 m
 operand:Okk E 177 7 (-7) X1 m
 exprs:Okk E 194 12 (-6) XS m
 types:Okk E 227 8 (-6) XS m
 signature:Ok E 94 7 (-13) m
 params:Ok E 109 2 (-15) m
 param:Ok E 156 7 (-5) m
 tparams:Ok E 110 2 (-15) m
 names:Ok E 147 3 (-6) m
 union:Ok E 148 7 (-6) m
 field:Ok E 96 8 (-5) m
 elem:Ok E 97 8 (-6) m
 element:Ok E 222 13 (-7) m
 value:Ok E 246 12 (-7) m
 elements:Ok E 184 7 (-15) m
 stmts:Ok E 36 30 (1) m
 anyStmts:Ok E 57 29 (1) m
 stmt:Ok E 102 28 (-6) m
 block:Ok E 111 2 (-14) m
 simple:Ok E 152 20 (-6) m
 declared:OkN E 185 2 (-8) m
 started:OkN E 186 2 (-7) m
 returned:OkN E 187 2 (-6) m
 branch:OkN E 188 2 (-6) m
 ifs:OkN E 189 2 (-6) m
 switches:OkN E 190 2 (-6) m
 selects:OkN E 191 2 (-6) m
 fors:OkN E 192 2 (-6) m
 group:OkN E 62 1 (-9) m
 valueSpec:Ok E 104 14 (-3) m
 constSpec:Ok E 106 14 (-3) m
 typeSpec:Ok E 107 8 (-3) m
 importSpec:Ok E 105 4 (-5) m
 fn:Ok E 64 2 (-6) m
 binary:∀least:Nat,1<=least->least<=6->∀W j I,St E W j I->64*(E.N-j)+10<m->Calls Tryz.prog 56 #[ptrV E.gr,.int .i64 (least:Int)] W (PNk E I j (-7) X1)
section
variable {E:SynE} {W W':World} {j:Nat} {I:List Item} {x y:Item}
theorem St.pop2(h:St E W j (x::y::I)):St E W j (x::I):=h.sub (.cons_cons _ (List.sublist_cons_self _ _))
theorem St.openR{b:Nat}{o:Obj}(h:St E W j (.raw b o::I)):St E W j (.raw b o::.row (.slice none 0 0) [] []::I):=h.nil.swap
theorem Good.pos{F:Nat->Prop}{g k:Nat}{gs:List Nat}{ps:List Prt}(h:Good E W F g k gs ps):1<=ps.length:=by
 obtain⟨_,_,_,_,_,_,_,_,_,_,_,rfl⟩:=h.open';simp
theorem PNk.go{a:Int}{e:Ending}{W':World}{κ:List Prt->Prop}(h:PNk E I j a κ e W'):(∃i:Nat,e=panE i/\St E W' i I)\/(∃g k gs ps,∃i:Nat,e=.returned (ptrV g)/\Hid (St E W' i (.done g k gs ps::I))/\(j<=i/\i<=E.N/\1<=ps.length/\(ps.length:Int)<=8*((i:Int)-j)+a)/\κ ps):=by
 rcases h.out with⟨g,k,gs,ps,i,rfl,hs,h1,h2,hk⟩|⟨i,rfl,hs⟩
 .exact Or.inr ⟨g,k,gs,ps,i,rfl,Hd hs,⟨h1,hs.r.le,Good.pos (hs.ok _ (.head _)),h2⟩,hk⟩
 .exact Or.inl ⟨i,rfl,hs⟩
theorem PW.go{ok:Bool}{e:Ending}{W':World}(h:PW E I j ok e W'):(e=panE j/\St E W' j I)\/(∃i,e=.returned (.tuple #[])/\Hid (St E W' i I)/\(j<i/\i<=j+1/\i<=E.N)):=by
 unfold PW at h;rcases h with⟨a,b,c⟩|⟨a,b,c⟩
 .exact Or.inr ⟨_,b,Hd c,Z,Z,c.r.le⟩
 .exact Or.inl ⟨b,c⟩
theorem PM.go{ok:Bool}{e:Ending}{W':World}(h:PM E I j ok e W'):(∃i,e=.returned (.bool true)/\Hid (St E W' i I)/\(j<i/\i<=j+1/\i<=E.N))\/(ok=false/\e=.returned (.bool false)/\Hid (St E W' j I)):=by
 unfold PM at h;obtain⟨rfl,h⟩:=h;cases ok with
 |true=>exact Or.inl ⟨_,rfl,Hd h,Ob,Ob,h.r.le⟩
 |false=>exact Or.inr ⟨rfl,rfl,Hd h⟩
theorem PL.go{k:Nat}{ok:Bool}{e:Ending}{W':World}(h:PL E I j k ok e W'):(e=panE j/\St E W' j I)\/(∃g i,e=.returned (ptrV g)/\Hid (St E W' i (.done g k [] [(k,0,textZ E k j)]::I))/\(j<i/\i<=j+1/\i<=E.N)):=by
 unfold PL at h;rcases h with⟨a,g,b,c⟩|h
 .exact Or.inr ⟨g,_,b,Hd c,Z,Z,c.r.le⟩
 .exact Or.inl h.2
theorem PB.go{k:Nat}{t:Int}{e:Ending}{W':World}(h:PB E I j k t e W'):∃g,e=.returned (ptrV g)/\Hid (St E W' j (.raw g (nodeC k (-1) j t (.slice none 0 0))::.row (.slice none 0 0) [] []::I)):=by
 unfold PB at h;obtain⟨g,a,b⟩:=h;exact⟨g,a,Hd b.openR⟩
theorem PB.no{k:Nat}{e:Ending}{W':World}(h:PB E I j k j e W')(hk:k<256/\leastC k=0):∃g,e=.returned (ptrV g)/\Hid (St E W' j (.done g k [] [(k,0,textZ E k (-1))]::I)):=by
 unfold PB at h;obtain⟨g,a,b⟩:=h;exact⟨g,a,Hd (b.done0 ⟨Z,Z⟩ hk)⟩
theorem PC.go{A:List Item}{n k:Nat}{w:Int}{gs:List Nat}{ps:List Prt}{e:Ending}{W':World}(h:PC E I A j n k w gs ps e W'):e=.returned (ptrV n)/\Hid (St E W' j (A++.done n k gs ((k,(gs.length:Int),textZ E k w)::ps)::I)):=by
 unfold PC at h;exact⟨h.1,Hd h.2⟩
theorem PD.go{k:Nat}{gs:List Nat}{ps:List Prt}{e:Ending}{W':World}(h:PD E I j k gs ps e W'):∃g,e=.returned (ptrV g)/\Hid (St E W' j (.done g k gs ps::I)):=by
 unfold PD at h;obtain⟨g,a,b⟩:=h;exact⟨g,a,Hd b⟩
theorem St.inc(h:St E W j I)(hN:j+1<=E.N):∃i,Hid (St E (W.setCell ⟨E.gr,3,none⟩ (.int .i64 ((j:Int)+1))) i I)/\(j<i/\i<=j+1/\i<=E.N) :=
 ⟨j+1,Hd (h.at' (j+1) hN),Z,Z,hN⟩
theorem St.ncell{n k:Nat}{w f t:Int}{v:Value}(h:St E W j I)(hm:.raw n (nodeC k w f t v)∈I):W.cell? ⟨n,0,none⟩=some (.int .u8 (k:Int))/\W.cell? ⟨n,1,none⟩=some (.int .i64 w)/\W.cell? ⟨n,4,none⟩=some v/\(∀i,W.frozen? ⟨n,i,none⟩=false)/\E.gr≠n/\n≠E.gr:=by
 have hr:W.heap[n]?=some (nodeC k w f t v):=h.ok _ hm;have hg:=(h.gt _ hm n rfl).1;simp[World.cell?,World.frozen?,hr,Nat.ne_of_lt hg,Nat.ne_of_gt hg]
theorem St.box{b:Nat}{T:TypeId}{v:Value}(h:St E W j I)(hm:.raw b (.cells #[v] T (0,0))∈I):W.cell? ⟨b,0,none⟩=some v:=by
 have hr:W.heap[b]?=some (.cells #[v] T (0,0)):=h.ok _ hm;simp[World.cell?,hr]
theorem St.nfrom{n k:Nat}{w f t:Int}{v:Value}(h:St E W j I)(hm:.raw n (nodeC k w f t v)∈I):W.cell? ⟨n,2,none⟩=some (.int .i64 f)/\n<W.heap.size:=by
 have hr:W.heap[n]?=some (nodeC k w f t v):=h.ok _ hm;exact⟨by simp[World.cell?,hr],yH hr⟩
theorem PNk.weak{a b:Int}{e:Ending}{W':World}{κ:List Prt->Prop}(h:PNk E I j a κ e W')(hab:a<=b):PNk E I j b κ e W':=by
 rcases h.out with⟨g,k,gs,ps,i,rfl,hs,h1,h2,hk⟩|⟨i,rfl,hs⟩
 .exact PNk.ret hs h1 Z hk
 .exact PNk.pan hs
theorem PNk.drop{a:Int}{e:Ending}{W':World}{κ:List Prt->Prop}(h:PNk E I j a κ e W'):PNd E I j a e W':=by
 rcases h.out with⟨g,k,gs,ps,i,rfl,hs,h1,h2,_⟩|⟨i,rfl,hs⟩
 .exact PNd.ret hs h1 h2
 .exact PNd.pan hs
theorem xT{P:Program}{w w':World}{o:Oper}{a:Act}{K:Act->World->Prop}{Q:Exit->Act->World->Prop}(s x:Operand)(t u:TypeId){v src v':Value}{ty:TypeId}(hrun:(Builtin.append_ #[t,u] ty #[v,src]).run P w=.ok v' w')(ho:o.op=.call { callee:=.builtin .append,args:=#[s,x],argTypes:=#[t,u] })(hty:o.type=ty)(hs:a.eval s=v)(hx:a.eval x=src)(h:K (a.put o.dst v') w'):Oper.wp P o a w K Q:=by
 subst hty;unfold Oper.wp;simp[execOp,ho,resolve,invoke,builtin,hs,hx,hrun,Result.andThen];exact h
def cw(E:SynE)(z:Int):Int:=if -1<=z/\z<E.N then z else -1
theorem yBa(E:SynE)(z:Int):-1<=cw E z/\cw E z<E.N:=by
 unfold cw;split<;>omega
theorem yGo{E:SynE}{i:Nat}(h:i<E.N):cw E i=i:=by unfold cw;rw[iP Z]
theorem PNw.mk{I:Int->List Item}{W':World}{g k i:Nat}{gs:List Nat}{ps:List Prt}{x a:Int}{κ:List Prt->Prop}(h:St E W' i (.done g k gs ps::I x))(hj:j<=i)(hz:(ps.length:Int)<=8*((i:Int)-j)+a)(hk:κ ps):PNw E I j a κ (.returned (ptrV g)) W':=by
 unfold PNw;exact Or.inl ⟨g,k,gs,ps,x,i,rfl,h,hj,hz,hk⟩
theorem PNw.pn{I:Int->List Item}{W':World}{i:Nat}{x a:Int}{κ:List Prt->Prop}(h:St E W' i (I x)):PNw E I j a κ (panE i) W':=by
 unfold PNw;exact Or.inr ⟨x,i,rfl,h⟩
theorem zIe(F:SynF E)(A:List Item){n k:Nat}{w f t:Int}{v:Value}{gs:List Nat}{ps:List Prt}(h:St E W j (A++.raw n (nodeC k w f t v)::.row v gs ps::I))(hl:gs.length<=1000)(hw:-1<=w/\w<E.N)(hk:k<256/\leastC k<=gs.length):Calls Tryz.prog 65 #[ptrV E.gr,ptrV n,.slice none 0 0] W (PC E I A j n k w gs ps):=by
 have:=zEw F A h (.slice none 0 0) [] [] ⟨rfl,none,0,rfl,nR _,λ_=>rfl,λh=>absurd h Ob⟩ (GoodS.nil _ _ _) (by simp;omega) hw (by simpa using hk)
 simpa using this
theorem St.ne(h:St E W j (x::I))(hy:y∈I){b c:Nat}(hx:x.blk=some b)(hc:y.blk=some c):b≠c:=λe=>(List.pairwise_cons.1 h.nd).1 y hy b hx (by rw[hc,e])
theorem St.perm{I':List Item}(h:St E W j I)(p:I'.Perm I):St E W j I' :=
 ⟨h.r,λy hy=>(h.ok y (p.mem_iff.1 hy)).to (λb hf=>⟨rfl,hf.1,hf.2.1,λz hz=>hf.2.2 z (p.mem_iff.1 hz)⟩) (λ_ _ _=>rfl),λy hy=>h.gt y (p.mem_iff.1 hy),(p.symm.pairwise_iff (λ{a b} hab c hc hd=>hab c hd hc)).1 h.nd⟩
theorem St.down(B:List Item)(h:St E W j (x::(B++I))):St E W j (B++x::I):=h.perm List.perm_middle
theorem St.boxz{b:Nat}{T:TypeId}{v:Value}(h:St E W j I)(hm:.raw b (.cells #[v] T (0,0))∈I):W.frozen? ⟨b,0,none⟩=false:=by
 have hr:W.heap[b]?=some (.cells #[v] T (0,0)):=h.ok _ hm;simp[World.frozen?,hr]
theorem St.setK(A:List Item){n k:Nat}{w f t:Int}{v:Value}(h:St E W j (A++.raw n (nodeC k w f t v)::I))(K:Nat):St E (W.setCell ⟨n,0,none⟩ (.int .u8 (K:Int))) j (A++.raw n (nodeC K w f t v)::I):=h.put A 0 _
theorem St.setW(A:List Item){n k:Nat}{w f t:Int}{v:Value}(h:St E W j (A++.raw n (nodeC k w f t v)::I))(u:Int):St E (W.setCell ⟨n,1,none⟩ (.int .i64 u)) j (A++.raw n (nodeC k u f t v)::I):=h.put A 1 _
theorem St.setV(A:List Item){n k:Nat}{w f t:Int}{v:Value}(h:St E W j (A++.raw n (nodeC k w f t v)::I))(u:Value):St E (W.setCell ⟨n,4,none⟩ u) j (A++.raw n (nodeC k w f t u)::I):=h.put A 4 _
theorem gP{w:List UInt8}(h:(wordZ E j).toList=w)(hw:w≠[]):j+1<=E.N:=zBk (by rw[h];exact hw)
theorem nq{a b:List UInt8}(h:¬a=b):(a==b)=false:=by simpa using h
@[irreducible] def PNm(E:SynE)(I:List Item)(n:Nat)(v:Value)(j:Nat)(b:Int)(κ:List Prt->Prop)(e:Ending)(W':World):Prop :=
 (∃k gs ps,∃i:Nat,e=.returned v/\St E W' i (.done n k gs ps::I)/\j<=i/\(ps.length:Int)<=8*((i:Int)-j)+b/\κ ps)\/(∃i:Nat,e=panE i/\St E W' i I)
abbrev PNn(E:SynE)(I:List Item)(n:Nat)(v:Value)(j:Nat)(b:Int):Ending->World->Prop:=PNm E I n v j b KT
theorem PNm.go{n:Nat}{v:Value}{b:Int}{e:Ending}{W':World}{κ:List Prt->Prop}(h:PNm E I n v j b κ e W'):(∃i:Nat,e=panE i/\St E W' i I)\/(∃k gs ps,∃i:Nat,e=.returned v/\Hid (St E W' i (.done n k gs ps::I))/\(j<=i/\i<=E.N/\1<=ps.length/\(ps.length:Int)<=8*((i:Int)-j)+b)/\κ ps):=by
 unfold PNm at h;rcases h with⟨k,gs,ps,i,rfl,hs,h1,h2,hk⟩|⟨i,rfl,hs⟩
 .exact Or.inr ⟨k,gs,ps,i,rfl,Hd hs,⟨h1,hs.r.le,Good.pos (hs.ok _ (.head _)),h2⟩,hk⟩
 .exact Or.inl ⟨i,rfl,hs⟩
theorem PNn.tightQ(I:List Item)(n g:Nat)(j:Nat)(b:Int){κ:List Prt->Prop}:TightQ E (PNm E I n (ptrV g) j b κ):=by
 refine⟨λe W h=>?_,λu W t h=>?_⟩
 .rcases h.go with⟨i,rfl,_⟩|⟨k,gs,ps,i,rfl,hs,_⟩
  .exact Or.inr ⟨i,rfl⟩
  .exact Or.inl ⟨_,rfl,_,_,hs.out⟩
 .unfold PNm at h ⊢;rcases h with⟨k,gs,ps,i,e,hs,h1,h2,hk⟩|⟨i,e,hs⟩
  .exact Or.inl ⟨k,gs,ps,i,e,hs.tight t,h1,h2,hk⟩
  .cases e
theorem PR.go{I:Int->List Item}{shut:List UInt8}{e:Ending}{W':World}{κ:List Prt->Prop}{x0:Int}(h:PR E I x0 shut j κ e W'):(∃x,∃i:Nat,e=panE i/\St E W' i (I x))\/(∃a n c gs ps x,∃i:Nat,e=.returned (.slice a n c)/\Hid (St E W' i (.row (.slice a n c) gs ps::I x))/\(j<i/\i<=E.N/\(ps.length:Int)<=8*((i:Int)-j)-8/\gs.length<=i-j)/\RowK κ gs.length ps/\(gs.length=0->x=x0/\isW E (j+1) shut=true)):=by
 unfold PR at h;rcases h with⟨v,gs,ps,x,i,rfl,⟨a,n,c,rfl⟩,hs,h1,h2,h3,h4,h5⟩|⟨x,i,rfl,hs⟩
 .exact Or.inr ⟨a,n,c,gs,ps,x,i,rfl,Hd hs,⟨h2,hs.r.le,h3,h4⟩,h5⟩
 .exact Or.inl ⟨x,i,rfl,hs⟩
theorem zLb(F:SynF E)(h:St E W j I)(opn mrk shut:List UInt8)(ho:opn≠[])(hm:mrk≠[])(hs:shut≠[]){v:Value}{k:FuncId}{args:Array Value}(hv:FnV v k args)(a:Int)(ha:a<=0){κ:List Prt->Prop}(hc:∀W' i J,j<i->St E W' i (J::I)->Calls Tryz.prog k args W' (PNk E (J::I) i a κ)):Calls Tryz.prog 108 #[ptrV E.gr,.string ⟨opn.toArray⟩,.string ⟨mrk.toArray⟩,.string ⟨shut.toArray⟩,v] W (PR E (λ_=>I) 0 shut j κ) :=
 zPr F (λ_=>I) 0 h opn mrk shut ho hm hs hv a ha λW' i x kv gs ps h1 h2=>(hc W' i _ h1 h2).mono λ_ _ h=>PNw.of h
theorem kT(F:SynF E)(A:List Item){n k:Nat}{w f t:Int}{v u:Value}{gs us:List Nat}{ps psu:List Prt}(h:St E W j (A++.raw n (nodeC k w f t v)::.row v gs ps::I))(hr:.row u us psu∈A++.raw n (nodeC k w f t v)::.row v gs ps::I)(hl:gs.length+us.length<=1000000000)(hw:-1<=w/\w<E.N)(hk:k<256/\leastC k<=gs.length+us.length):Calls Tryz.prog 65 #[ptrV E.gr,ptrV n,u] W (PC E I A j n k w (gs++us) (ps++psu)) :=
 zEw F A h u us psu (Row.of_owns (h.ok _ hr).1) (h.ok _ hr).2 hl hw hk
theorem St.rot{z:Item}(h:St E W j (x::y::z::I)):St E W j (y::z::x::I):=by
 have h1:=h.swap;have hm:∀u,u∈y::z::x::I↔u∈y::x::z::I:=λu=>by
  simp only[List.mem_cons];exact⟨λh=>by rcases h with h|h|h|h<;>simp[h],λh=>by rcases h with h|h|h|h<;>simp[h]⟩
 have n1:=List.pairwise_cons.1 h1.nd;have n2:=List.pairwise_cons.1 n1.2;have n3:=List.pairwise_cons.1 n2.2;refine⟨h1.r,λu hu=>(h1.ok u ((hm u).1 hu)).to (λb hf=>⟨rfl,hf.1,hf.2.1,λq hq=>hf.2.2 q ((hm q).1 hq)⟩) (λ_ _ _=>rfl),λu hu=>h1.gt u ((hm u).1 hu),?_⟩;refine List.pairwise_cons.2 ⟨λu hu=>n1.1 u (by simp only[List.mem_cons]at hu ⊢;rcases hu with h|h|h<;>simp[h]),List.pairwise_cons.2 ⟨λu hu b e e'=>?_,List.pairwise_cons.2 ⟨λu hu=>n2.1 u (List.mem_cons_of_mem _ hu),n3.2⟩⟩⟩;rcases List.mem_cons.1 hu with rfl|hu
 .exact n2.1 z (List.mem_cons_self ..) b e' e
 .exact n3.1 u hu b e e'
theorem zSp(F:SynF E)(A:List Item){n k:Nat}{w f t:Int}{v:Value}{gs:List Nat}{ps:List Prt}(h:St E W j (A++.raw n (nodeC k w f t v)::.row v gs ps::I)){us:List Nat}{psu:List Prt}(hg:GoodS E W (FrB E W (A++.raw n (nodeC k w f t v)::.row v gs ps::I)) us psu){C:Array Value}(hC:C=(ptrsV us).toArray)(hl:gs.length+us.length<=1000000000)(hw:-1<=w/\w<E.N)(hk:k<256/\leastC k<=gs.length+us.length){c:Nat}(hc:us.length<=c){b:Nat}(hb:b=W.heap.size):Calls Tryz.prog 65 #[ptrV E.gr,ptrV n,.slice (some ⟨b,0,none⟩) us.length c] (W.alloc (.cells C 41)) (PC E I A j n k w (gs++us) (ps++psu)):=by
 subst hC;subst hb;have hb:=(bR W.heap.size W).alloc (nR _) (.cells (ptrsV us).toArray 41);refine zEw F A (h.ext hb) _ us psu ⟨by rw[zDr];omega,some ⟨W.heap.size,0,none⟩,c,rfl,hc,(λe=>by cases e),λ_=>⟨W.heap.size,0,rfl,Ob,λi hi=>?_⟩⟩ (hg.to λb hf=>⟨Below.heap_alloc _ _ _ hf.2.1,hf.1,by simp;exact Nat.lt_succ_of_lt hf.2.1,hf.2.2⟩) hl hw hk;rw[Nat.zero_add,World.cell?_alloc_at _ _ _ _ rfl];simp
end
end Go.Proofs.YtfpjdpdmgceciaaGreatDoor
