/- Layer 11 in plain Lean: trees in the place of parts. -/
import Derived.Test.YtfpjdpdmgceciaaGreatDoorTermTg
import Derived.Laws.CopyOwn
import Derived.Test.YtfpjdpdmgceciaaGreatDoorCoreTg
import Derived.StillTailTactics
namespace Go.Proofs.YtfpjdpdmgceciaaGreatDoor
set_option linter.all false
def toZ(l:List Prt)(stop:Nat):Nat->Nat->Option Nat
 |0,tq=>some tq
 |m+1,tq=>if stop<=tq then none else toZ l stop m (zB l tq)
def addK:List Prt->Nat->Int->List Prt
 |[],_,_=>[]
 |p::r,0,d=>(p.1,p.2.1+d,p.2.2)::r
 |p::r,k+1,d=>p::addK r k d
theorem zGl:∀(l:List Prt)(k:Nat)(d:Int),(addK l k d).length=l.length
 |[],_,_=>rfl
 |p::r,0,d=>rfl
 |p::r,k+1,d=>by rw[addK,lC,lC,zGl r k d]
def swapZ(l:List Prt)(i n:Int)(b:List Prt):List Prt×Int :=
 if zT l=true then match zC b with
  |none=>([],8)
  |some ks=>if 0<=i/\i<l.length/\0<=n/\(i=0->n=1/\ks.length=1)then
    if i=0 then(b,0)else
     match toZ l (zB l (upI l i.toNat i.toNat).toNat) n.toNat i.toNat with
     |none=>([],1)
     |some tq=>(addK (l.take i.toNat) (upI l i.toNat i.toNat).toNat ((ks.length:Int)-n)++(b++l.drop tq),0)
   else([],1)
 else([],8)
theorem yDv{l:List Prt}{us:List Nat}(h:zC l=some us){stop:Nat}(hs:stop<=l.length):∀(m tq e:Nat),tq<=l.length->toZ l stop m tq=some e->tq+m<=e/\e<=l.length
 |0,tq,e,hl,he=>by rw[toZ]at he;cases he;omega
 |m+1,tq,e,hl,he=>by
  rw[toZ]at he;split at he
  .cases he
  .have hg:=zS h (show tq<l.length by omega);have:=yDv h hs m (zB l tq) e hg.2 he;omega
theorem yDw(l:List Prt)(i:Nat):∀k,upI l i k<k
 |0=>by rw[upI];omega
 |k+1=>by
  rw[upI];split
  .omega
  .have:=yDw l i k;omega
open Go
open Go.RowKit
section
variable {P:Program}
end
end Go.Proofs.YtfpjdpdmgceciaaGreatDoor
namespace Go.Proofs.YtfpjdpdmgceciaaGreatDoor
set_option linter.all false
open Go.RowKit
theorem zLr:Tryz.prog.underlying 22=some (.slice (Tryz.prog.elem 22)):=Oa
theorem zCv(w:World):(sizeOf (Tryz.prog.elem 22)).run Tryz.prog w=.ok 3 w:=by
 have h:(Tryz.prog.info? (Tryz.prog.elem 22)).map (·.size)=some 3:=Oa;cases hq:Tryz.prog.info? (Tryz.prog.elem 22)with
 |none=>rw[hq]at h;cases h
 |some i =>
  rw[hq]at h;simp only[Option.map_some,Option.some.injEq]at h;simp[sizeOf,typeInfo,hq,h]
theorem zRd(g off n c lo:Nat)(hlo:lo<=n):∃p:Option Addr,(∀w,(Instr.slice 22 (.slice (some ⟨g,off,none⟩) n c) (some (.int .i64 (lo:Int))) none none).run Tryz.prog w=.ok (.slice p (n-lo) (c-lo)) w)/\(lo<c->p=some ⟨g,off+lo*3,none⟩):=by
 refine⟨if c=lo then some ⟨g,off,none⟩else some ⟨g,off+lo*3,none⟩,λw=>?_,λh=>iN Z⟩;rw[run_slice_l w _ _ _ _ zLr .i64 (lo:Int) Z Z,zCv];simp only[Result.andThen,sliced,Int.toNat_natCast];by_cases h:c=lo
 .rw[iP h,iP h]
 .rw[iN h,iN h];simp[Addr.add]
attribute [local irreducible] wpStill
def sndN:Nat->Code->Code
 |0,c=>c
 |n+1,.seq _ b=>sndN n b
 |_,c=>c
def fstC:Code->Code
 | .seq a _=>a
 |c=>c
theorem kZ:(Tryz.prog.info? 33).map (λi=>(i.zero,i.size,i.bytes))=some (some (.agg #[.int .u8 0,.int .i64 0,.string ByteArray.empty]),3,32):=Oa
theorem gX(l:List Prt):∀u∈zP l,u.oneCell'=true:=by
 intro u hu;unfold zP at hu;rw[List.mem_flatMap]at hu;obtain⟨p,_,hp⟩:=hu;unfold partV at hp;simp at hp;rcases hp with rfl|rfl|rfl<;>rfl
theorem zG.piece{w:World}{b off n cap:Nat}{l:List Prt}(h:zG w (.slice (some ⟨b,off,Option.none⟩) n cap) l)(i e:Nat)(hi:i<=e)(he:e<=l.length)(j:Nat)(v:Value)(hv:(zP ((l.drop i).take (e-i)))[j]?=some v):w.cell? (Addr.add ⟨b,off+i*3,Option.none⟩ j)=some v:=by
 obtain⟨h1,a',cap',hv',hc,_,h2⟩:=h;simp only[Value.slice.injEq]at hv';obtain⟨rfl,rfl,rfl⟩:=hv';have hj:=(List.getElem?_eq_some_iff.1 hv).1;rw[yV,List.length_take,List.length_drop]at hj;obtain⟨b',off',ha,_,hcell⟩:=h2 Z;simp only[Option.some.injEq,Addr.mk.injEq,and_true]at ha;obtain⟨rfl,rfl⟩:=ha;have e0:∀o j,(⟨b,o,Option.none⟩:Addr).add j=⟨b,o+j,Option.none⟩:=by intro o j;simp[Addr.add]
 have e1:(Addr.add ⟨b,off+i*3,Option.none⟩ j:Addr)=⟨b,off+(i*3+j),Option.none⟩:=by rw[e0,Nat.add_assoc]
 rw[e1,hcell _ Z,<-hv];have hsp:l=l.take i++((l.drop i).take (e-i)++(l.drop i).drop (e-i)):=by rw[List.take_append_drop,List.take_append_drop]
 have hA:(zP (l.take i)).length=i*3:=by rw[yV,List.length_take,Nat.min_eq_left Z]
 conv=>lhs;rw[hsp,xR,xR]
 rw[List.getElem?_append_right Z,hA,show i*3+j-i*3=j by omega,List.getElem?_append_left (by rw[yV,List.length_take,List.length_drop];omega)]
theorem zJk:∀(l:List Prt)(u:Nat)(d:Int)(hu:u<l.length),(zP l).set (u*3+1) (.int .i64 ((l[u]).2.1+d))=zP (addK l u d)
 |p::r,0,d,_=>rfl
 |p::r,u+1,d,hu=>by
  have ih:=zJk r u d (by simpa using hu);have e:zP (p::r)=partV p++zP r:=rfl;rw[addK,e,show zP (p::addK r u d)=partV p++zP (addK r u d)from rfl,<-ih,List.set_append_right _ _ (by simp[partV];omega)]
  congr 2
  simp[partV];omega
end Go.Proofs.YtfpjdpdmgceciaaGreatDoor
