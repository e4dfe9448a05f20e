/- The variable internal/bytealg.MaxLen, out of the world's shape. -/
import Derived.Test.YtbjkdmbcpkopjaaGreatDoorLaidMt
import Derived.Test.YtbjkdmbcpkopjaaGreatDoorQuoted5Mt
import Derived.Test.YtbjkdmbcpkopjaaGreatDoorRows
import Derived.Test.YtbjkdmbcpkopjaaGreatDoorTermMt
import Derived.Test.YtbjkdmbcpkopjaaGreatDoorU8bMt
import Derived.ProofKit
import Derived.OpenShut
import Derived.ChangeOld
import Derived.Lib.LaidTab
import Derived.Test.YtbjkdmbcpkopjaaGreatDoorRulesVMt
namespace Go.Proofs.YtbjkdmbcpkopjaaGreatDoor
set_option linter.all false
theorem maxC {W:World} (h:W.ShapedOpen Tryz.prog):MaxC W:=by
 obtain ⟨m,hm⟩:=Tryz.laysM155.s1_3 W h;exact ⟨m,hm,zKq hm⟩
set_option maxRecDepth 100000
set_option maxHeartbeats 32000000
open Go.ChangeShapes
open Go.WideShapes
open Go.ChangeAt
open Go.RowKit
theorem zXv {w:World} {b o:Nat} {v:Value} (h:w.cell? ⟨b,o,none⟩=some v):b<w.heap.size:=by
 apply Classical.byContradiction;intro hn;unfold World.cell? at h;rw [Array.getElem?_eq_none (by simpa using hn)] at h;cases h
def partD {H:Type} (p:Prt):DataW H:=.agg [.lit (.int .u8 p.1),.lit (.int .i64 p.2.1),.lit (.string p.2.2.data.toList)]
theorem zXw {W:World} {a:Addr} {n:Nat} {cs:List Value} (h:W.cells? 0 a n=some cs):cs.length=n∧∀ j,j<n→W.cell? (a.add j)=cs[j]?:=by
 unfold World.cells? at h;rw [iP (Nat.zero_le _)] at h;refine ⟨by simpa using Lib.mapM_length h,fun j hj=>?_⟩;obtain ⟨b,h1,h2⟩:=Lib.mapM_at h j j (by simp [hj]);rw [h1,h2]
theorem zNl:∃ fs,Tryz.prog.underlying 53=some (.struct fs)∧fs.size=3∧(fs[0]?.map fun f=>(f.type,f.offset))=some (5,0)∧(fs[1]?.map fun f=>(f.type,f.offset))=some (3,1)∧(fs[2]?.map fun f=>(f.type,f.offset))=some (9,2) :=
 ⟨_,Tryz.underlying53,by kernel_rfl,by kernel_rfl,by kernel_rfl,by kernel_rfl⟩
theorem zUm {H:Type} {enc:TypeId×Value→H} {W:World} {sp:Nat→Bool} {held:Bool} {n:Nat} {cs:List Value} {y:DataW H×List MemPlace}
  (h:DataW.trod enc Tryz.prog W 0 sp held n 53 cs=some y):∃ p:Prt,cs=partV p∧p.1<256∧y.1=partD p:=by
 obtain ⟨fs,hf,hs,f0,f1,f2⟩:=zNl;obtain ⟨xs,m,_,hy,hl,hxl,hall⟩:=DataW.trod_struct hf h;rw [show Tryz.prog.cellsOf 53=3 by kernel_rfl] at hl;obtain ⟨c0,c1,c2,rfl⟩:∃ c0 c1 c2,cs=[c0,c1,c2]:=by
  match cs,hl with
  | [a,b,c],_=>exact ⟨a,b,c,rfl⟩
 obtain ⟨x0,x1,x2,rfl⟩:∃ c0 c1 c2,xs=[c0,c1,c2]:=by
  rw [hs] at hxl;match xs,hxl with
  | [a,b,c],_=>exact ⟨a,b,c,rfl⟩
 obtain ⟨g0,e0,e0'⟩:=Option.map_eq_some_iff.1 f0;obtain ⟨g1,e1,e1'⟩:=Option.map_eq_some_iff.1 f1;obtain ⟨g2,e2,e2'⟩:=Option.map_eq_some_iff.1 f2;simp only [Prod.mk.injEq] at e0' e1' e2';have a0:=hall 0 g0 e0;have a1:=hall 1 g1 e1;have a2:=hall 2 g2 e2;rw [e0'.1,e0'.2,show Tryz.prog.cellsOf 5=1 by kernel_rfl] at a0;rw [e1'.1,e1'.2,show Tryz.prog.cellsOf 3=1 by kernel_rfl] at a1;rw [e2'.1,e2'.2,show Tryz.prog.cellsOf 9=1 by kernel_rfl] at a2;obtain ⟨z0,hz0,hx0,hw0⟩:=DataW.trod_int Tryz.underlying5 (by simpa using a0);obtain ⟨z1,hz1,hx1,_⟩:=DataW.trod_int Tryz.underlying3 (by simpa using a1);obtain ⟨z2,hz2,hx2,_⟩:=DataW.trod_string Tryz.underlying9 (by simpa using a2);simp at hz0 hz1 hz2;subst hz0 hz1 hz2;have hb:=bounds_u8 hw0;refine ⟨(z0.toNat,z1,z2),?_,by show z0.toNat<256;omega,?_⟩
 ·unfold partV;simp only [];rw [show ((z0.toNat:Nat):Int)=z0 by omega]
 ·rw [hy];unfold partD;simp only [List.map_cons,List.map_nil,hx0,hx1,hx2];rw [show ((z0.toNat:Nat):Int)=z0 by omega]
theorem zGp {H:Type} {d:DataW H}:∀ {ds:List (DataW H)},d∈ds→Rows.uptoBulk d≤Rows.uptoBulkAll ds
 | [],h=>by cases h
 | x::ds,h=>by
  rw [Rows.uptoBulkAll];rcases List.mem_cons.1 h with rfl | h
  ·omega
  ·have:=zGp h;omega
theorem zGq {H:Type}:∀ {ds:List (DataW H)},(∀ d∈ds,1≤Rows.uptoBulk d)→ds.length≤Rows.uptoBulkAll ds
 | [],_=>by simp [Rows.uptoBulkAll]
 | x::ds,h=>by
  rw [Rows.uptoBulkAll,lC];have:=h x (by simp);have:=zGq (ds:=ds) (fun d hd=>h d (by simp [hd]));omega
theorem zGr {H:Type} {enc:TypeId×Value→H} {W:World} {held:Bool} {α:Type} (E T:TypeId) (sz:Nat) (V:α→List Value) (D:α→DataW H→Prop) (x0:α)
  (hT:Tryz.prog.underlying T=some (.slice E)) (hsz:Tryz.prog.cellsOf E=sz) (hz:0<sz) (hV:∀ x,(V x).length=sz)
  (hopen:∀ (n:Nat) (cs:List Value) (y:DataW H×List MemPlace),DataW.trod enc Tryz.prog W 0 (fun _=>true) held n E cs=some y→∃ x,cs=V x∧D x y.1)
  {fuel:Nat} {cs:List Value} {y:DataW H×List MemPlace} (hf:DataW.trod enc Tryz.prog W 0 (fun _=>true) held fuel T cs=some y) :
  ∃ (v:Value) (l:List α) (ds:List (DataW H)),cs=[v]∧Row W v l.length sz (l.flatMap V)∧ds.length=l.length∧(∀ i (hi:i<l.length) (hd:i<ds.length),D l[i] ds[i])∧Rows.uptoBulkAll ds+1≤Rows.uptoBulk y.1:=by
 rcases DataW.trod_slice hT hf with ⟨hcs,hx⟩ | ⟨a,len,cap,elems,rest,n,_,hcs,hx,_,hl,hm,hlen,hel,_,_⟩
 ·refine ⟨.slice none 0 0,[],[],hcs,⟨by simp,none,0,rfl,nR _,fun _=>rfl,fun h=>absurd h (by simp)⟩,rfl,fun i hi=>absurd hi (by simp),?_⟩;rw [hx];simp [Rows.uptoBulkAll,Rows.uptoBulk]
 ·rw [hsz] at hel;have each:∀ i,i<len→∃ q:α,(∃ z,elems[i]?=some z∧D q z.1)∧∀ j,j<sz→W.cell? ((a.add (i*sz)).add j)=(V q)[j]?:=by
   intro i hi;have h1:=hel i hi;rw [gE (by omega)] at h1;obtain ⟨cs,hcs,ht⟩:=Option.bind_eq_some_iff.1 h1;obtain ⟨hcl,hcell⟩:=zXw hcs;obtain ⟨q,rfl,hq⟩:=hopen _ _ _ ht;exact ⟨q,⟨_,gE (by omega),hq⟩,hcell⟩
  let f:Nat→α:=fun i=>if h:i<len then Classical.choose (each i h) else x0
  have hf2:∀ i,i<len→(∃ z,elems[i]?=some z∧D (f i) z.1)∧∀ j,j<sz→W.cell? ((a.add (i*sz)).add j)=(V (f i))[j]?:=by
   intro i hi;have:=Classical.choose_spec (each i hi);simp only [f,dif_pos hi];exact this
  have hll:((List.range len).map f).length=len:=by simp
  refine ⟨.slice (some a) len cap,(List.range len).map f,elems.map (·.1),hcs,?_,by rw [hll,List.length_map];exact hlen,?_,?_⟩
  ·refine ⟨zHt hV _,some a,cap,by rw [hll],by rw [hll];exact hl,by simp,fun hn=>?_⟩;rw [hll] at hn;obtain ⟨b,off,spot⟩:=a;have c0:=(hf2 0 hn).2 0 hz;have hv0:0<(V (f 0)).length:=by rw [hV];exact hz
   rw [gE hv0] at c0;have hspot:spot=none:=by simpa [Addr.add] using World.cell?_spot c0
   subst hspot;have c0':W.cell? ⟨b,off,none⟩=some (V (f 0))[0]:=by simpa [Addr.add] using c0
   refine ⟨b,off,rfl,zXv c0',fun i hi=>?_⟩;rw [hll] at hi;have hq:i / sz<len:=Nat.div_lt_of_lt_mul (by rw [Nat.mul_comm];exact hi);have hm2:i % sz<sz:=Nat.mod_lt _ hz;have hc:=(hf2 (i / sz) hq).2 (i % sz) hm2;have hi2:i / sz*sz+i % sz=i:=by rw [Nat.mul_comm];exact Nat.div_add_mod i sz
   have ea:(Addr.add ⟨b,off,none⟩ (i / sz*sz)).add (i % sz)=⟨b,off+i,none⟩:=by
    have e3:off+i / sz*sz+i % sz=off+i:=by omega
    simp only [Addr.add];split <;> split <;> simp_all <;> omega
   rw [ea] at hc;rw [hc];have:=vO hV ((List.range len).map f) (i / sz) (i % sz) (by rw [hll];exact hq) hm2;rw [hi2] at this;rw [this];simp
  ·intro i hi hd;rw [hll] at hi;obtain ⟨⟨z,hz1,hz2⟩,_⟩:=hf2 i hi;have e1:((List.range len).map f)[i]'(by rw [hll];exact hi)=f i:=by simp
   have e2:(elems.map (·.1))[i]'hd=z.1:=by
    apply Option.some.inj;rw [← gE hd,List.getElem?_map,hz1];rfl
   rw [e1,e2];exact hz2
  ·rw [hx];show _≤Rows.uptoBulkAll (elems.map (·.1))+Rows.uptoBulkAll (rest.map (·.1))+1;omega
theorem zNm:∃ fs,Tryz.prog.underlying 50=some (.struct fs)∧fs.size=2∧(fs[0]?.map fun f=>(f.type,f.offset))=some (9,0)∧(fs[1]?.map fun f=>(f.type,f.offset))=some (5,1) :=
 ⟨_,Tryz.underlying50,by kernel_rfl,by kernel_rfl,by kernel_rfl⟩
def holeDat {H:Type} (q:Hl) (d:DataW H):Prop:=q.2<256∧q.1.size+1≤Rows.uptoBulk d
def partDat {H:Type} (q:Prt) (d:DataW H):Prop:=q.1<256∧q.2.2.size+1≤Rows.uptoBulk d
theorem zUn {H:Type} {enc:TypeId×Value→H} {W:World} {sp:Nat→Bool} {held:Bool} {n:Nat} {cs:List Value} {y:DataW H×List MemPlace}
  (h:DataW.trod enc Tryz.prog W 0 sp held n 50 cs=some y):∃ q:Hl,cs=holeV q∧holeDat q y.1:=by
 obtain ⟨fs,hf,hs,f0,f1⟩:=zNm;obtain ⟨xs,m,_,hy,hl,hxl,hall⟩:=DataW.trod_struct hf h;rw [show Tryz.prog.cellsOf 50=2 by kernel_rfl] at hl;obtain ⟨c0,c1,rfl⟩:∃ c0 c1,cs=[c0,c1]:=by
  match cs,hl with
  | [a,b],_=>exact ⟨a,b,rfl⟩
 obtain ⟨x0,x1,rfl⟩:∃ c0 c1,xs=[c0,c1]:=by
  rw [hs] at hxl;match xs,hxl with
  | [a,b],_=>exact ⟨a,b,rfl⟩
 obtain ⟨g0,e0,e0'⟩:=Option.map_eq_some_iff.1 f0;obtain ⟨g1,e1,e1'⟩:=Option.map_eq_some_iff.1 f1;simp only [Prod.mk.injEq] at e0' e1';have a0:=hall 0 g0 e0;have a1:=hall 1 g1 e1;rw [e0'.1,e0'.2,show Tryz.prog.cellsOf 9=1 by kernel_rfl] at a0;rw [e1'.1,e1'.2,show Tryz.prog.cellsOf 5=1 by kernel_rfl] at a1;obtain ⟨z0,hz0,hx0,_⟩:=DataW.trod_string Tryz.underlying9 (by simpa using a0);obtain ⟨z1,hz1,hx1,hw1⟩:=DataW.trod_int Tryz.underlying5 (by simpa using a1);simp at hz0 hz1;subst hz0 hz1;have hb:=bounds_u8 hw1;refine ⟨(z0,z1.toNat),?_,by show z1.toNat<256;omega,?_⟩
 ·unfold holeV;simp only [];rw [show ((z1.toNat:Nat):Int)=z1 by omega]
 ·rw [hy];simp only [List.map_cons,List.map_nil,hx0,hx1,Rows.uptoBulk,Rows.uptoBulkAll];have e:z0.size=z0.data.toList.length:=(Array.length_toList (xs:=z0.data)).symm;omega
theorem zQv {H:Type} {enc:TypeId×Value→H} {W:World} {sp:Nat→Bool} {held:Bool} {n:Nat} {cs:List Value} {y:DataW H×List MemPlace}
  (h:DataW.trod enc Tryz.prog W 0 sp held n 53 cs=some y):∃ q:Prt,cs=partV q∧partDat q y.1:=by
 obtain ⟨p,h1,h2,h3⟩:=zUm h;refine ⟨p,h1,h2,?_⟩;rw [h3];unfold partD;simp only [Rows.uptoBulk,Rows.uptoBulkAll];have e:p.2.2.size=p.2.2.data.toList.length:=(Array.length_toList (xs:=p.2.2.data)).symm;omega
theorem zDk {H:Type} {α:Type} {D:α→DataW H→Prop} {k:α→Nat} (hD:∀ x d,D x d→k x+1≤Rows.uptoBulk d) {l:List α} {ds:List (DataW H)} (hl:ds.length=l.length) (h:∀ i (hi:i<l.length) (hd:i<ds.length),D l[i] ds[i]):l.length≤Rows.uptoBulkAll ds∧∀ x∈l,k x≤Rows.uptoBulkAll ds∧∃ d∈ds,D x d:=by
 refine ⟨by
  rw [← hl];refine zGq fun d hd=>?_;obtain ⟨i,hi,rfl⟩:=List.mem_iff_getElem.1 hd;have:=hD _ _ (h i (by omega) hi);omega,fun x hx=>?_⟩
 obtain ⟨i,hi,rfl⟩:=List.mem_iff_getElem.1 hx;have h1:=h i hi (by omega);have h2:=zGp (gM (show i<ds.length by omega));exact ⟨by have:=hD _ _ h1;omega,_,gM (by omega),h1⟩
theorem zGs {H:Type} {enc:TypeId×Value→H} {W:World} {held:Bool} {fuel:Nat} {cs:List Value} {y:DataW H×List MemPlace} (hf:DataW.trod enc Tryz.prog W 0 (fun _=>true) held fuel 25 cs=some y) :
  ∃ v l,cs=[v]∧zF W v l∧l.length+1≤Rows.uptoBulk y.1∧∀ p∈l,p.1<256∧p.2.2.size≤Rows.uptoBulk y.1:=by
 obtain ⟨v,l,ds,h1,h2,h3,h4,h5⟩:=zGr (H:=H) 53 25 3 partV partDat (0,0,⟨#[]⟩) Tryz.underlying25 (by kernel_rfl) (by decide) (fun _=>rfl) (fun n cs y h=>zQv h) hf;obtain ⟨g1,g2⟩:=zDk (k:=fun p:Prt=>p.2.2.size) (fun x d h=>h.2) h3 h4;exact ⟨v,l,h1,h2,by omega,fun p hp=>by obtain ⟨q1,d,_,q2⟩:=g2 p hp;exact ⟨q2.1,by omega⟩⟩
theorem zQw {H:Type} {enc:TypeId×Value→H} {W:World} {held:Bool} {fuel:Nat} {cs:List Value} {y:DataW H×List MemPlace} (hf:DataW.trod enc Tryz.prog W 0 (fun _=>true) held fuel 39 cs=some y) :
  ∃ v l,cs=[v]∧HoleRow W v l∧l.length+1≤Rows.uptoBulk y.1∧∀ p∈l,p.1.size≤Rows.uptoBulk y.1∧p.2<256:=by
 obtain ⟨v,l,ds,h1,h2,h3,h4,h5⟩:=zGr (H:=H) 50 39 2 holeV holeDat (⟨#[]⟩,0) Tryz.underlying39 (by kernel_rfl) (by decide) (fun _=>rfl) (fun n cs y h=>zUn h) hf;obtain ⟨g1,g2⟩:=zDk (k:=fun p:Hl=>p.1.size) (fun x d h=>h.2) h3 h4;exact ⟨v,l,h1,h2,by omega,fun p hp=>by obtain ⟨q1,d,_,q2⟩:=g2 p hp;exact ⟨by omega,q2.1⟩⟩
theorem zNn:∃ fs,Tryz.prog.underlying 41=some (.struct fs)∧fs.size=5∧(fs[0]?.map fun f=>(f.type,f.offset))=some (9,0)∧(fs[1]?.map fun f=>(f.type,f.offset))=some (5,1)∧(fs[2]?.map fun f=>(f.type,f.offset))=some (39,2)∧(fs[3]?.map fun f=>(f.type,f.offset))=some (25,3)∧(fs[4]?.map fun f=>(f.type,f.offset))=some (25,4) :=
 ⟨_,Tryz.underlying41,by kernel_rfl,by kernel_rfl,by kernel_rfl,by kernel_rfl,by kernel_rfl,by kernel_rfl⟩
def ruleDat {H:Type} (W:World) (x:RuleX) (d:DataW H):Prop:=RuleIn W x.1 x.2.1 x.2.2.1 x.2.2.2∧1≤Rows.uptoBulk d∧(Rows.uptoBulk d≤1048576→SmallR x.1)
def ruleDatF {H:Type} (W:World) (x:RuleX) (d:DataW H):Prop:=RuleIn W x.1 x.2.1 x.2.2.1 x.2.2.2∧1≤Rows.uptoBulk d∧(Rows.uptoBulk d≤1048576→SmallR x.1∧x.1.fnd.length<1048576)
theorem zQx {H:Type} {enc:TypeId×Value→H} {W:World} {held:Bool} {n:Nat} {cs:List Value} {y:DataW H×List MemPlace}
  (h:DataW.trod enc Tryz.prog W 0 (fun _=>true) held n 41 cs=some y):∃ x:RuleX,cs=ruleV x∧ruleDatF W x y.1:=by
 obtain ⟨fs,hf,hs,f0,f1,f2,f3,f4⟩:=zNn;obtain ⟨xs,m,_,hy,hl,hxl,hall⟩:=DataW.trod_struct hf h;rw [show Tryz.prog.cellsOf 41=5 by kernel_rfl] at hl;obtain ⟨c0,c1,c2,c3,c4,rfl⟩:∃ c0 c1 c2 c3 c4,cs=[c0,c1,c2,c3,c4]:=by
  match cs,hl with
  | [a,b,c,d,e],_=>exact ⟨a,b,c,d,e,rfl⟩
 obtain ⟨x0,x1,x2,x3,x4,rfl⟩:∃ c0 c1 c2 c3 c4,xs=[c0,c1,c2,c3,c4]:=by
  rw [hs] at hxl;match xs,hxl with
  | [a,b,c,d,e],_=>exact ⟨a,b,c,d,e,rfl⟩
 obtain ⟨g0,e0,e0'⟩:=Option.map_eq_some_iff.1 f0;obtain ⟨g1,e1,e1'⟩:=Option.map_eq_some_iff.1 f1;obtain ⟨g2,e2,e2'⟩:=Option.map_eq_some_iff.1 f2;obtain ⟨g3,e3,e3'⟩:=Option.map_eq_some_iff.1 f3;obtain ⟨g4,e4,e4'⟩:=Option.map_eq_some_iff.1 f4;simp only [Prod.mk.injEq] at e0' e1' e2' e3' e4';have a0:=hall 0 g0 e0;have a1:=hall 1 g1 e1;have a2:=hall 2 g2 e2;have a3:=hall 3 g3 e3;have a4:=hall 4 g4 e4;rw [e0'.1,e0'.2,show Tryz.prog.cellsOf 9=1 by kernel_rfl] at a0;rw [e1'.1,e1'.2,show Tryz.prog.cellsOf 5=1 by kernel_rfl] at a1;rw [e2'.1,e2'.2,show Tryz.prog.cellsOf 39=1 by kernel_rfl] at a2;rw [e3'.1,e3'.2,show Tryz.prog.cellsOf 25=1 by kernel_rfl] at a3;rw [e4'.1,e4'.2,show Tryz.prog.cellsOf 25=1 by kernel_rfl] at a4;obtain ⟨z0,hz0,hx0,_⟩:=DataW.trod_string Tryz.underlying9 (by simpa using a0);obtain ⟨z1,hz1,hx1,hw1⟩:=DataW.trod_int Tryz.underlying5 (by simpa using a1);obtain ⟨vh,lh,hz2,rh,bh1,bh2⟩:=zQw (show DataW.trod enc Tryz.prog W 0 (fun _=>true) held m 39 [c2]=some x2 by simpa using a2);obtain ⟨vf,lf,hz3,rf,bf1,bf2⟩:=zGs (show DataW.trod enc Tryz.prog W 0 (fun _=>true) held m 25 [c3]=some x3 by simpa using a3);obtain ⟨vb,lb,hz4,rb,bb1,bb2⟩:=zGs (show DataW.trod enc Tryz.prog W 0 (fun _=>true) held m 25 [c4]=some x4 by simpa using a4);simp at hz0 hz1 hz2 hz3 hz4;subst hz0 hz1 hz2 hz3 hz4;have hb:=bounds_u8 hw1;refine ⟨(⟨z0,z1.toNat,lh,lf,lb⟩,c2,c3,c4),?_,⟨rh,rf,rb⟩,?_,?_⟩
 ·unfold ruleV;simp only [];rw [show ((z1.toNat:Nat):Int)=z1 by omega]
 ·rw [hy];simp only [List.map_cons,List.map_nil,Rows.uptoBulk];omega
 ·rw [hy];simp only [List.map_cons,List.map_nil,hx0,hx1,Rows.uptoBulk,Rows.uptoBulkAll];intro hbk;have e:z0.size=z0.data.toList.length:=(Array.length_toList (xs:=z0.data)).symm;exact ⟨⟨by show z0.size≤_;omega,by show z1.toNat<256;omega,⟨by show lh.length≤_;omega,fun x hx=>by have:=bh2 x hx;exact ⟨by omega,this.2⟩⟩,⟨by show lf.length≤_;omega,fun x hx=>by have:=bf2 x hx;exact ⟨this.1,by omega⟩⟩,⟨by show lb.length≤_;omega,fun x hx=>by have:=bb2 x hx;exact ⟨this.1,by omega⟩⟩⟩,by show lf.length<_;omega⟩
theorem zUo {H:Type} {enc:TypeId×Value→H} {W:World} {held:Bool} {n:Nat} {cs:List Value} {y:DataW H×List MemPlace}
  (h:DataW.trod enc Tryz.prog W 0 (fun _=>true) held n 41 cs=some y):∃ x:RuleX,cs=ruleV x∧ruleDat W x y.1:=by
 obtain ⟨x,h1,h2,h3,h4⟩:=zQx h;exact ⟨x,h1,h2,h3,fun hb=>(h4 hb).1⟩
theorem zGt {H:Type} {enc:TypeId×Value→H} {W:World} {base:Nat} {v:Value} {d:DataW H} {p:List MemPlace}
  (hv:Value.okWide Tryz.prog W .any base 22 v) (h:DataW.Trod enc Tryz.prog W 0 (fun _=>true) true 22 v d p):∃ rs:List RuleX,xM W v rs∧rs.length+1≤Rows.uptoBulk d∧(Rows.uptoBulk d≤1048576→∀ x∈rs,SmallR x.1):=by
 obtain ⟨a0,len,cap,rfl⟩:=okWide_slice Tryz.underlying22 hv;obtain ⟨fuel,hf⟩:=h;have hf:DataW.trod enc Tryz.prog W 0 (fun _=>true) true fuel 22 [.slice a0 len cap]=some (d,p):=hf;obtain ⟨v,l,ds,h1,h2,h3,h4,h5⟩:=zGr (H:=H) 41 22 5 ruleV (ruleDat W) (⟨⟨#[]⟩,0,[],[],[]⟩,undef,undef,undef) Tryz.underlying22 (by kernel_rfl) (by decide) (fun _=>rfl) (fun n cs y h=>zUo h) hf;obtain ⟨g1,g2⟩:=zDk (k:=fun _:RuleX=>0) (fun x d h=>by have:=h.2.1;omega) h3 h4;simp only [List.cons.injEq,and_true] at h1;subst h1;simp only [] at h5;refine ⟨l,⟨h2,fun x hx=>by obtain ⟨_,d',_,q⟩:=g2 x hx;exact q.1⟩,by omega,fun hb x hx=>?_⟩;obtain ⟨_,d',hd',q⟩:=g2 x hx;exact q.2.2 (by have:=zGp hd';omega)
end Go.Proofs.YtbjkdmbcpkopjaaGreatDoor
