/- Layer 12: a text is read. -/
import Derived.Test.YtbjkdmbcpkopjaaGreatDoorPthMt
import Derived.Test.YtbjkdmbcpkopjaaGreatDoorNestMt
import Derived.Test.YtbjkdmbcpkopjaaGreatDoorPsZMt
namespace Go.Proofs.YtbjkdmbcpkopjaaGreatDoor
set_option maxRecDepth 100000
set_option maxHeartbeats 32000000
set_option linter.all false
attribute [local irreducible] Calls
attribute [local irreducible] wpStill
open Go.RowKit

theorem yBc:(nestAll awT).1=awL∧(nestAll awT).2.2.2=(0,0):=⟨by decide +kernel,by decide +kernel⟩
@[irreducible] def RR (s:ByteArray) (gl:Nat) (w0:World) (e:Ending) (W':World):Prop :=
 Below w0.heap.size w0 W'∧((∃ (E:SynE) (g k:Nat) (gs:List Nat) (ps:List Prt),E.s=s∧E.toks=(nestAll s).1∧e=.returned (.tuple #[E.vt,ptrV g,.agg #[.int .i64 0,.int .i64 0]])∧TokRow W' E.vt E.toks∧(∀ t∈E.toks,(0≤t.1∧t.1<256)∧t.2.1≤t.2.2∧t.2.2≤s.size)∧s.size≤65536∧E.N≤65537∧Good E W' (fun b=>w0.heap.size≤b∧b<W'.heap.size) g k gs ps∧(ps.length:Int)≤8*(E.N:Int)+10∧(s=awT∧gl=2→ps=awP)) ∨
  (∃ (va:Option Addr) (vn vc:Nat),∃ f a:Int,e=.returned (.tuple #[.slice va vn vc,.pointer none,.agg #[.int .i64 f,.int .i64 a]])∧f≠0∧¬ (s=awT∧gl=2)))
theorem FK.cells {W:World} {g:Nat} {e a:Int} (h:FK W g e a):W.cell? ⟨g,0,none⟩=some (.int .i64 e)∧W.cell? ⟨g,1,none⟩=some (.int .i64 a)∧∀ i,W.frozen? ⟨g,i,none⟩=false:=by
 unfold FK at h;simp [World.cell?,World.frozen?,h]
theorem FK.other {W:World} {g:Nat} {e a:Int} (h:FK W g e a) {c:Nat} (hc:g≠c) (i:Nat) (v:Value):FK (W.setCell ⟨c,i,none⟩ v) g e a:=by
 unfold FK at *;rw [heap_setCell_other _ _ _ _ hc];exact h
theorem TokRow.on {w w':World} {v:Value} {l:List (Int×Nat×Nat)} {B:Nat} (h:TokRow w v l) (hn:NewV B v) (hs:w.heap.size≤w'.heap.size) (hk:∀ b,B≤b→b<w.heap.size→w'.heap[b]?=w.heap[b]?):TokRow w' v l:=by
 obtain ⟨a,cap,hv,hc,h2⟩:=h;refine ⟨a,cap,hv,hc,fun hpos=>?_⟩;obtain ⟨b,ha,hbl,hcell⟩:=h2 hpos;have hB:B≤b:=hn b (by rw [hv,ha];rfl);have e:∀ i,w'.cell? ⟨b,i,Option.none⟩=w.cell? ⟨b,i,Option.none⟩:=fun i=>by simp [World.cell?,hk b hB hbl]
 exact ⟨b,ha,by omega,fun i hi=>by rw [e,e,e];exact hcell i hi⟩
theorem zJp (w6:World) {b p q:Nat} (hp:b≠p) (hq:b≠q) (x1 x2 x3 x4:Value):((((w6.setCell ⟨p,0,none⟩ x1).setCell ⟨p,1,none⟩ x2).setCell ⟨q,0,none⟩ x3).setCell ⟨q,1,none⟩ x4).drew.heap[b]?=w6.heap[b]?:=by
 show (((((w6.setCell ⟨p,0,none⟩ x1).setCell ⟨p,1,none⟩ x2).setCell ⟨q,0,none⟩ x3).setCell ⟨q,1,none⟩ x4).heap)[b]?=w6.heap[b]?;rw [heap_setCell_other _ _ _ _ hq,heap_setCell_other _ _ _ _ hq,heap_setCell_other _ _ _ _ hp,heap_setCell_other _ _ _ _ hp]
section
theorem zXx (s:ByteArray) (hs:s.size≤2147483647) (gl:Nat) (hg:1≤gl∧gl≤4) (w:World) (hT:Tabs w) (hM:MaxC w):Calls Tryz.prog 19 #[.int .u8 (gl:Int),.string s] w (RR s gl w):=by
 have CN:=Hd (fun W (hb:Below w.heap.size w W)=>yAz s hs W (hT.below hb) (hM.below hb));have HE:Hid (∀ (tm:Array Value) W' v n e a,RR s gl w (.returned (.tuple #[v,n,.agg #[.int .i64 e,.int .i64 a]])) W'→FK W' w.heap.size e a→tm.getD 6 undef=.pointer (some ⟨w.heap.size,0,none⟩)→tm.getD 4 undef=v→tm.getD 5 undef=n→bodyPost Tryz.prog Tryz.f19 (RR s gl w) .ret ⟨tm,[]⟩ W') :=
  Hd fun tm W' v n e a h1 h2 h3 h4 h5=>by
   refine bodyPost_ret (gH rfl tm W' w.heap.size 28 #[.int .i64 e,.int .i64 a] (0,0) _ h3 h2 Tryz.underlying28 rfl (by kernel_rfl)) rfl ?_;rw [h4,h5];exact h1
 have hg1:¬ (gl:Int)<1:=by omega
 have hg2:¬ 4<(gl:Int):=by omega
 clear hT hM;go_enter Tryz.func19,Tryz.ntmps19;go_wp2_with fail;have hb0:Below w.heap.size w (w.alloc (.cells #[.int .i64 0,.int .i64 0] 28)):=(bR _ _).alloc (nR _) _;have hk0:FK (w.alloc (.cells #[.int .i64 0,.int .i64 0] 28)) w.heap.size 0 0:=by unfold FK;exact heap_alloc_new _ _
 have hz0:w.heap.size<(w.alloc (.cells #[.int .i64 0,.int .i64 0] 28)).heap.size:=by simp
 generalize (w.alloc (.cells #[.int .i64 0,.int .i64 0] 28))=w1 at *;refine (CN.out w1 hb0).mono ?_;intro e w2 h2;unfold nofPost at h2;cases hq:nestAll s with
 | mk l q =>
 obtain ⟨p,m,ef,af⟩:=q;rw [hq] at h2;obtain ⟨v1,v2,rfl,hb2,ht2,hp2,n1,n2⟩:=h2;simp only at ht2 hp2;have hk2:FK w2 w.heap.size 0 0:=by unfold FK at hk0 ⊢;rw [hb2.block _ hz0];exact hk0
 have hz2:w.heap.size<w2.heap.size:=Nat.lt_of_lt_of_le hz0 hb2.size;have HL:=Hd (zUf hq);have hbw:Below w.heap.size w w2:=zC hb0 hb2;clear CN;have HT2:=Hd ht2;have HP2:=Hd hp2;obtain ⟨va,vc,hv1,-,-⟩:=id ht2;obtain ⟨pa,pc,hv2,-,-⟩:=hp2.open';subst hv1;subst hv2;clear hp2;have HN1:=Hd n1;clear n1 n2;have HAW:Hid (s=awT→l=awL∧ef=0):=Hd (fun e=>by have h:=yBc;rw [← e,hq] at h;exact ⟨h.1,by have:=h.2;simp at this;exact this.1⟩);rcases HL.out with hne | ⟨rfl,rfl,hs6,hl6,hpl,hpb,hok⟩
 ·obtain ⟨c60,c61,z6⟩:=hk2.cells;go_wp2_with fail;go_region;go_wp2_with fail;refine HE.out _ _ _ _ ef af ?_ ?_ rfl rfl rfl
  ·unfold RR;exact ⟨(((hbw.setCell (p:=⟨w.heap.size,0,none⟩) (nR _) _).setCell (p:=⟨w.heap.size,1,none⟩) (nR _) _).alloc (by simp;omega) _).drew,Or.inr ⟨_,_,_,ef,af,rfl,hne,fun h=>hne (HAW.out h.1).2⟩⟩
  ·exact ((hk2.fill ef af).alloc _).keep (bR _ _).drew
 ·obtain ⟨E,hE⟩:∃ E:SynE,E=⟨s,l,p,.slice va l.length vc,.slice pa p.length pc,w2.alloc (.cells #[.int .i64 0,.int .i64 0] 28)⟩:=⟨_,rfl⟩;have hgr:E.gr=w2.heap.size+1:=by rw [hE];simp [SynE.gr]
  have hbA:Below w2.heap.size w2 (w2.alloc (.cells #[.int .i64 0,.int .i64 0] 28)):=(bR _ _).alloc (nR _) _;have F:SynF E:=by
   rw [hE];exact ⟨ht2.below hbA,HP2.out.below hbA,hpl,hpb,hok,by show l.length≤1000000;omega,by show s.size≤1000000;omega⟩
  have HS0:Hid (St E ((w2.alloc (.cells #[.int .i64 0,.int .i64 0] 28)).alloc (.cells #[.string s,.slice va l.length vc,.slice pa p.length pc,.int .i64 0,.bool false] 66)) 0 []):=Hd (by
   subst hE;exact ⟨⟨(bR _ _).alloc (nR _) _,⟨false,heap_alloc_new _ _⟩,Nat.zero_le _⟩,(fun x hx=>by cases hx),(fun x hx=>by cases hx),List.Pairwise.nil⟩)
  have HX:Hid (s=awT∧gl=2→Aw E∧gl=2):=Hd fun h=>⟨by subst hE;exact ⟨h.1,(HAW.out h.1).1⟩,h.2⟩
  have HTR:=Hd (by have:=zYz F HS0.out gl hg;rw [hgr,hpl] at this;exact this);have hEs:E.s=s:=by rw [hE]
  have hEt:E.toks=l:=by rw [hE]
  have hEv:E.vt=.slice va l.length vc:=by rw [hE]
  have hEw:E.w0=w2.alloc (.cells #[.int .i64 0,.int .i64 0] 28):=by rw [hE]
  clear hE F HS0;go_wp2_with fail;refine HTR.out.mono ?_;intro e w6 h6;have hk9:FK (w2.alloc (.cells #[.int .i64 0,.int .i64 0] 28)) w2.heap.size 0 0:=by unfold FK;exact heap_alloc_new _ _
  have hk6:=hk2.alloc (.cells #[.int .i64 0,.int .i64 0] 28);have hbwA:=zC hbw hbA;have hT6:=ht2.below hbA;rw [← hEw] at hk9 hk6 hbwA hT6;have hne9:w.heap.size≠w2.heap.size:=Nat.ne_of_lt hz2;have hne9':w2.heap.size≠w.heap.size:=Ne.symm hne9;unfold TR at h6;rcases h6 with ⟨g,k,gs,ps,i,rfl,hst,hp,hxp⟩ | ⟨a,i,rfl,hst,hxp⟩;all_goals
   have hk9:=hk9.keep hst.r.below;have hk6:=hk6.keep hst.r.below;obtain ⟨c60,c61,z6⟩:=hk6.cells;obtain ⟨c90,c91,z9⟩:=hk9.cells;have hT6:=hT6.below hst.r.below;have hbw6:=zC hbwA hst.r.below;have HST:=Hd hst;have HXP:=Hd hxp;have hBB:∀ x1 x2 x3 x4,Below w.heap.size w ((((w6.setCell ⟨w2.heap.size,0,none⟩ x1).setCell ⟨w2.heap.size,1,none⟩ x2).setCell ⟨w.heap.size,0,none⟩ x3).setCell ⟨w.heap.size,1,none⟩ x4).drew:=fun x1 x2 x3 x4 =>
    ((((hbw6.setCell (p:=⟨w2.heap.size,0,none⟩) (by show w.heap.size≤w2.heap.size;omega) _).setCell (p:=⟨w2.heap.size,1,none⟩) (by show w.heap.size≤w2.heap.size;omega) _).setCell (p:=⟨w.heap.size,0,none⟩) (nR _) _).setCell (p:=⟨w.heap.size,1,none⟩) (nR _) _).drew
   have hB6:Below w2.heap.size w2 w6:=zC hbA (by rw [← hEw];exact hst.r.below);have hB26:∀ b,b<w2.heap.size→w6.heap[b]?=w2.heap[b]?:=fun b h=>hB6.block b h;have hz26:w2.heap.size≤w6.heap.size:=hB6.size;clear hxp hst hB6 hk2 HTR hbwA hbA hEw
  ·go_wp2_with fail;go_region;go_wp2_with fail;refine HE.out _ _ (.slice va l.length vc) (ptrV g) 0 0 ?_ (FK.keep (((hk6.other hne9 0 _).other hne9 1 _).fill 0 0) (bR _ _).drew) rfl rfl rfl;have hst:=HST.out;have hlt6:=hst.r.lt;unfold RR;refine ⟨hBB _ _ _ _,Or.inl ⟨E,g,k,gs,ps,hEs,by rw [hEt,hq],by rw [hEv],?_,by rw [hEt];exact hok,hs6,by show E.toks.length≤65537;rw [hEt];exact hl6,?_,hp,fun h=>HXP.out (HX.out h)⟩⟩
   ·rw [hEt,hEv];refine ht2.on HN1.out (by simp;omega) fun b h1 h2=>?_;rw [zJp _ (by omega) (by omega)];exact hB26 b h2
   ·refine Good.to (fun b hb=>?_) (hst.ok _ (.head _));obtain ⟨f1,f2,-⟩:=hb;rw [hgr] at f1;exact ⟨zJp _ (by omega) (by omega) _ _ _ _,by omega,by simpa using f2⟩
  ·go_wp2_with fail;go_region;go_wp2_with fail;refine HE.out _ _ (.slice va l.length vc) (.pointer none) 7 a ?_ (FK.keep (((hk6.other hne9 0 _).other hne9 1 _).fill 7 a) (bR _ _).drew) rfl rfl rfl;unfold RR;exact ⟨hBB _ _ _ _,Or.inr ⟨_,_,_,7,a,rfl,by decide,fun h=>HXP.out (HX.out h)⟩⟩
end
@[irreducible] def TermQ (s:ByteArray) (gl:Nat) (w0:World) (e:Ending) (W':World):Prop :=
 Below w0.heap.size w0 W'∧∃ (v:Value) (l:List Prt) (f a:Int),e=.returned (.tuple #[v,.agg #[.int .i64 f,.int .i64 a]])∧zF W' v l∧(l.length≤1000000∧∀ p∈l,p.1<256∧p.2.2.size≤1000000)∧(s=awT∧gl=2→f=0∧a=0∧l=awP)
theorem zRl (s:ByteArray) (a b:Nat):(s.extract a b).size≤s.size:=by rw [ByteArray.size_extract];omega
theorem yCy {E:SynE} (hs:E.s.size≤1000000) (w:Int):(tokZ E w).size≤1000000:=by
 unfold tokZ;split
 ·simp
 ·split
  ·exact Nat.le_trans (zRl _ _ _) hs
  ·simp
theorem yBl {E:SynE} (hs:E.s.size≤1000000) (k:Nat) (w:Int):(textZ E k w).size≤1000000:=by
 rw [zOl]
 repeat' split
 all_goals first | exact yCy hs w | decide
theorem Good.small {E:SynE} (hs:E.s.size≤1000000) {W:World} {F:Nat→Prop} {g k:Nat} {gs:List Nat} {ps:List Prt} (h:Good E W F g k gs ps):∀ p∈ps,p.1<256∧p.2.2.size≤1000000:=by
 induction h with
 | mk g k word frm tx v gs pss h0 hc hw hr hkk hl kind kids ih ih2 =>
  intro p hp;rcases List.mem_cons.1 hp with rfl | hp
  ·exact ⟨hkk.1,yBl hs _ _⟩
  ·obtain ⟨q,hq,hpq⟩:=List.mem_flatten.1 hp;obtain ⟨i,hi,rfl⟩:=List.getElem_of_mem hq;exact ih2 i (by omega) hi p hpq
theorem TmI.start (E:SynE) (sb tb:Nat):TmI E sb tb (E.gr+1) (E.gr+1+1) (E.gr+1+1+1) (.slice none 0 0) [] ((((E.w0.alloc (.cells #[.string E.s,E.vt,E.vp,.int .i64 0,.bool false] 66)).alloc (.cells #[ptrV E.gr] 64)).alloc (.cells #[.slice none 0 0] 25)).alloc (.cells #[walkV sb tb (E.gr+1) (E.gr+1+1) (E.gr+1+1+1)] 67)):=by
 have n1:=heap_alloc_new E.w0 (.cells #[.string E.s,E.vt,E.vp,.int .i64 0,.bool false] 66);have n2:=heap_alloc_new (E.w0.alloc (.cells #[.string E.s,E.vt,E.vp,.int .i64 0,.bool false] 66)) (.cells #[ptrV E.gr] 64);have n3:=heap_alloc_new ((E.w0.alloc (.cells #[.string E.s,E.vt,E.vp,.int .i64 0,.bool false] 66)).alloc (.cells #[ptrV E.gr] 64)) (.cells #[.slice none 0 0] 25);have n4:=heap_alloc_new (((E.w0.alloc (.cells #[.string E.s,E.vt,E.vp,.int .i64 0,.bool false] 66)).alloc (.cells #[ptrV E.gr] 64)).alloc (.cells #[.slice none 0 0] 25)) (.cells #[walkV sb tb (E.gr+1) (E.gr+1+1) (E.gr+1+1+1)] 67);have hg:E.w0.heap.size=E.gr:=rfl;simp only [World.size_alloc,hg] at n1 n2 n3 n4;refine ⟨⟨((((bR _ _).alloc (nR _) _).alloc (by simp) _).alloc (by simp;omega) _).alloc (by simp;omega) _,⟨false,?_⟩,Nat.zero_le _⟩,?_,?_,?_,World.ownsRow_nil _ _ _ _,by omega,by omega,by omega,by simp [hg]⟩
 ·rw [Below.heap_alloc _ _ _ (by simp [hg];try omega),Below.heap_alloc _ _ _ (by simp [hg];try omega),Below.heap_alloc _ _ _ (by simp [hg])];exact n1
 ·rw [Below.heap_alloc _ _ _ (by simp [hg];try omega),Below.heap_alloc _ _ _ (by simp [hg])];exact n2
 ·rw [Below.heap_alloc _ _ _ (by simp [hg])];exact n3
 ·exact n4
theorem zOi (s:ByteArray) (hs:s.size≤2147483647) (gl:Nat) (hg:1≤gl∧gl≤4) (w:World) (hT:Tabs w) (hM:MaxC w):Calls Tryz.prog 6 #[.int .u8 (gl:Int),.string s] w (TermQ s gl w):=by
 have CR:=Hd (fun W (hb:Below w.heap.size w W)=>zXx s hs gl hg W (hT.below hb) (hM.below hb));have HE:Hid (∀ (tm:Array Value) W' v e a,TermQ s gl w (.returned (.tuple #[v,.agg #[.int .i64 e,.int .i64 a]])) W'→FK W' (w.heap.size+1) e a→tm.getD 5 undef=.pointer (some ⟨w.heap.size+1,0,none⟩)→tm.getD 4 undef=v→bodyPost Tryz.prog Tryz.f6 (TermQ s gl w) .ret ⟨tm,[]⟩ W') :=
  Hd fun tm W' v e a h1 h2 h3 h4=>by
   refine bodyPost_ret (kP rfl tm W' (w.heap.size+1) 28 #[.int .i64 e,.int .i64 a] (0,0) _ h3 h2 Tryz.underlying28 rfl (by kernel_rfl)) rfl ?_;rw [h4];exact h1
 have hmf:=mkf;clear hT hM;go_enter Tryz.func6,Tryz.ntmps6;go_wp2_with fail;have hb0:Below w.heap.size w ((w.alloc (.cells #[.string s] 9)).alloc (.cells #[.int .i64 0,.int .i64 0] 28)):=((bR _ _).alloc (nR _) _).alloc (by simp) _;have hk0:FK ((w.alloc (.cells #[.string s] 9)).alloc (.cells #[.int .i64 0,.int .i64 0] 28)) (w.heap.size+1) 0 0:=by unfold FK;have:=heap_alloc_new (w.alloc (.cells #[.string s] 9)) (.cells #[.int .i64 0,.int .i64 0] 28);simpa using this
 have hs0:((w.alloc (.cells #[.string s] 9)).alloc (.cells #[.int .i64 0,.int .i64 0] 28)).heap[w.heap.size]?=some (.cells #[.string s] 9 (0,0)):=by rw [Below.heap_alloc _ _ _ (by simp)];exact heap_alloc_new _ _
 have hz0:w.heap.size+1<((w.alloc (.cells #[.string s] 9)).alloc (.cells #[.int .i64 0,.int .i64 0] 28)).heap.size:=by simp
 generalize ((w.alloc (.cells #[.string s] 9)).alloc (.cells #[.int .i64 0,.int .i64 0] 28))=w1 at *;refine (CR.out w1 hb0).mono ?_;intro e w2 h2;unfold RR at h2;obtain ⟨hb2,h2⟩:=h2;have hk2:=hk0.keep hb2;have hs2:w2.heap[w.heap.size]?=some (.cells #[.string s] 9 (0,0)):=keeps hb2 hs0;have hbw:=zC hb0 hb2;have hz2:w.heap.size+1<w2.heap.size:=Nat.lt_of_lt_of_le hz0 hb2.size;clear CR hb0 hb2 hk0 hs0;rcases h2 with ⟨E,g,k,gs,ps,hEs,hEt,rfl,hrow,hok,hsz,hN,hG,hlen,hxp⟩ | ⟨va,vn,vc,f,a,rfl,hf,hx⟩
 ·obtain ⟨va,vc,hv,hcap,-⟩:=id hrow;have HR:=Hd hrow;have HEs:=Hd hEs;have HXP:=Hd hxp;have HOK:=Hd hok;rw [hv];clear hrow hEs hEt hxp hok;go_upto_region 4 with (fail);have hbA:Below w2.heap.size w2 ((w2.alloc (.cells #[.slice va E.toks.length vc] 60)).alloc (.cells #[.int .i64 0,.int .i64 0] 28)):=((bR _ _).alloc (nR _) _).alloc (by simp) _;have ht3:((w2.alloc (.cells #[.slice va E.toks.length vc] 60)).alloc (.cells #[.int .i64 0,.int .i64 0] 28)).heap[w2.heap.size]?=some (.cells #[.slice va E.toks.length vc] 60 (0,0)):=by rw [Below.heap_alloc _ _ _ (by simp)];exact heap_alloc_new _ _
  have hf3:FK ((w2.alloc (.cells #[.slice va E.toks.length vc] 60)).alloc (.cells #[.int .i64 0,.int .i64 0] 28)) (w2.heap.size+1) 0 0:=by unfold FK;have:=heap_alloc_new (w2.alloc (.cells #[.slice va E.toks.length vc] 60)) (.cells #[.int .i64 0,.int .i64 0] 28);simpa using this
  have hz3:((w2.alloc (.cells #[.slice va E.toks.length vc] 60)).alloc (.cells #[.int .i64 0,.int .i64 0] 28)).heap.size=w2.heap.size+1+1:=by simp
  have hk3:=hk2.keep hbA;have hs3:=keeps hbA hs2;have hbw3:=zC hbw hbA;have hR3:=HR.out.below hbA;have hG3:=Good.to (F':=fun b=>b<w2.heap.size+1+1) (fun b hb=>⟨hbA.block b hb.2,by have:=hb.2;omega⟩) hG;clear hG hbA hk2 hs2 hbw HR;generalize ((w2.alloc (.cells #[.slice va E.toks.length vc] 60)).alloc (.cells #[.int .i64 0,.int .i64 0] 28))=w3 at *;have c_s:w3.cell? ⟨w.heap.size,0,none⟩=some (.string s):=by simp [World.cell?,hs3]
  have c_t:w3.cell? ⟨w2.heap.size,0,none⟩=some (.slice va E.toks.length vc):=by simp [World.cell?,ht3]
  have HI0:Hid (TmI ⟨s,E.toks,[],.slice va E.toks.length vc,.slice none 0 0,w3⟩ w.heap.size w2.heap.size (w2.heap.size+1+1+1) (w2.heap.size+1+1+1+1) (w2.heap.size+1+1+1+1+1) (.slice none 0 0) [] ((((w3.alloc (.cells #[.string s,.slice va E.toks.length vc,.slice none 0 0,.int .i64 0,.bool false] 66)).alloc (.cells #[ptrV (w2.heap.size+1+1)] 64)).alloc (.cells #[.slice none 0 0] 25)).alloc (.cells #[walkV w.heap.size w2.heap.size (w2.heap.size+1+1+1) (w2.heap.size+1+1+1+1) (w2.heap.size+1+1+1+1+1)] 67))):=Hd (by
   have h:=TmI.start ⟨s,E.toks,[],.slice va E.toks.length vc,.slice none 0 0,w3⟩ w.heap.size w2.heap.size;simp only [SynE.gr,hz3] at h;exact h)
  have HS:Hid (TmS ⟨s,E.toks,[],.slice va E.toks.length vc,.slice none 0 0,w3⟩ w.heap.size w2.heap.size):=Hd ⟨⟨hv ▸ hR3,HOK.out,by show E.toks.length≤1000000;unfold SynE.N at hN;omega,by show s.size≤1000000;omega⟩,c_s,c_t,by show w.heap.size<w3.heap.size;omega,by show w2.heap.size<w3.heap.size;omega⟩;have HG:Hid (Good ⟨s,E.toks,[],.slice va E.toks.length vc,.slice none 0 0,w3⟩ w3 (fun b=>b<w3.heap.size) g k gs ps):=Hd (by rw [hz3];exact Good.via (E':=⟨s,E.toks,[],.slice va E.toks.length vc,.slice none 0 0,w3⟩) HEs.out.symm rfl hG3);have HSM:Hid (ps.length≤1000000∧∀ p∈ps,p.1<256∧p.2.2.size≤1000000):=Hd ⟨by omega,Good.small (by rw [HEs.out];omega) hG3⟩;have HK3:=Hd hk3;have HF3:=Hd hf3;have HBW3:=Hd hbw3;clear hk3 hf3 hbw3 hR3 hG3 hs3 ht3 hv hcap HOK;go_upto_region 8 with (fail);generalize ((((w3.alloc (.cells #[.string s,.slice va E.toks.length vc,.slice none 0 0,.int .i64 0,.bool false] 66)).alloc (.cells #[ptrV (w2.heap.size+1+1)] 64)).alloc (.cells #[.slice none 0 0] 25)).alloc (.cells #[walkV w.heap.size w2.heap.size (w2.heap.size+1+1+1) (w2.heap.size+1+1+1+1) (w2.heap.size+1+1+1+1+1)] 67))=w8 at *;have c_w:=(HI0.out.boxes HS.out).2.2.2.2.1;have HC:=Hd (tm_walk HS.out HG.out HI0.out (by simp;omega));clear c_s c_t HI0;go_wp2_with fail;refine HC.out.mono ?_;intro e w9 h9;unfold TmQ at h9;obtain ⟨rfl,ov,h9⟩:=h9;have hb9:Below w3.heap.size w3 w9:=h9.r.below;obtain ⟨k0,k1,kz⟩:=(HK3.out.keep hb9).cells;obtain ⟨f0,f1,fz⟩:=(HF3.out.keep hb9).cells;rw [List.nil_append] at h9;obtain ⟨ova,ovc,hov,-⟩:=zF.slice (l:=ps) (Row.of_owns h9.row);subst hov;obtain ⟨-,-,-,b_o,-,-⟩:=h9.boxes HS.out;have H9:=Hd h9;have HB9:=Hd (zC HBW3.out hb9);clear h9 c_w HC HS HG;have HK9:=Hd (HK3.out.keep hb9);clear hb9;go_upto_region 9 with (fail);go_region;go_wp2_with fail;refine HE.out _ _ (.slice ova ps.length ovc) 0 0 ?_ (FK.keep (HK9.out.fill 0 0) (bR _ _).drew) rfl rfl;unfold TermQ;have hne:∀ (o:World) (i:Nat),o.ownsRow (w2.heap.size+1+1+1+1+1+1) 53 3 (.slice ova ps.length ovc) ps.length (yF ps)→(o.setCell ⟨w.heap.size+1,i,none⟩ (.int .i64 0)).ownsRow (w2.heap.size+1+1+1+1+1+1) 53 3 (.slice ova ps.length ovc) ps.length (yF ps):=fun o i h=>ownsRow_setCell_other h (a:=⟨w.heap.size+1,i,none⟩) (fun e=>by have h1:w2.heap.size+1+1+1+1+1+1≤w.heap.size+1:=(h.lt _ e).1;omega) _
  refine ⟨((HB9.out.setCell (p:=⟨w.heap.size+1,0,none⟩) (by show w.heap.size≤w.heap.size+1;omega) _).setCell (p:=⟨w.heap.size+1,1,none⟩) (by show w.heap.size≤w.heap.size+1;omega) _).drew,_,ps,0,0,rfl,Row.of_owns (zY (hne _ 1 (hne _ 0 H9.out.row)) (bR _ _).drew),HSM.out,fun h=>⟨rfl,rfl,HXP.out h⟩⟩
 ·have hbA:Below w2.heap.size w2 ((w2.alloc (.cells #[.slice va vn vc] 60)).alloc (.cells #[.int .i64 f,.int .i64 a] 28)):=((bR _ _).alloc (nR _) _).alloc (by simp) _;have hf3:FK ((w2.alloc (.cells #[.slice va vn vc] 60)).alloc (.cells #[.int .i64 f,.int .i64 a] 28)) (w2.heap.size+1) f a:=by unfold FK;have:=heap_alloc_new (w2.alloc (.cells #[.slice va vn vc] 60)) (.cells #[.int .i64 f,.int .i64 a] 28);simpa using this
  have hk3:=hk2.keep hbA;have hbw3:=zC hbw hbA;clear hk2 hs2 hbw hbA;go_upto_region 3 with (fail);generalize ((w2.alloc (.cells #[.slice va vn vc] 60)).alloc (.cells #[.int .i64 f,.int .i64 a] 28))=w3 at *;obtain ⟨k0,k1,kz⟩:=hk3.cells;obtain ⟨f0,f1,fz⟩:=hf3.cells;have HK:=Hd hk3;have HB:=Hd hbw3;clear hk3 hf3 hbw3;go_region;go_wp2_with fail;refine HE.out _ _ (.slice none 0 0) f a ?_ (FK.keep (HK.out.fill f a) (bR _ _).drew) rfl rfl;unfold TermQ;refine ⟨((HB.out.setCell (p:=⟨w.heap.size+1,0,none⟩) (by show w.heap.size≤w.heap.size+1;omega) _).setCell (p:=⟨w.heap.size+1,1,none⟩) (by show w.heap.size≤w.heap.size+1;omega) _).drew,_,[],f,a,rfl,Row.of_owns (World.ownsRow_nil _ 0 53 3),⟨by simp,fun p hp=>by cases hp⟩,fun h=>absurd h hx⟩
end Go.Proofs.YtbjkdmbcpkopjaaGreatDoor
