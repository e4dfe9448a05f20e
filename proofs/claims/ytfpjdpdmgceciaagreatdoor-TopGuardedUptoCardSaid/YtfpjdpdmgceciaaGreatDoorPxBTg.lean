/- Layer 12: exact steps of the reader. -/
import Derived.Test.YtfpjdpdmgceciaaGreatDoorGtPTg
import Derived.Test.YtfpjdpdmgceciaaGreatDoorPsVTg
import Derived.Test.YtfpjdpdmgceciaaGreatDoorPs2Tg
namespace Go.Proofs.YtfpjdpdmgceciaaGreatDoor
set_option maxRecDepth 100000
set_option maxHeartbeats 32000000
set_option linter.all false
attribute [local irreducible] Calls
attribute [local irreducible] wpStill
open Go.RowKit
@[irreducible] def PX(E:SynE)(I:List Item)(n:Nat)(ps:List Prt)(e:Ending)(W':World):Prop:=∃g k gs,∃i:Nat,i=n/\e=.returned (ptrV g)/\St E W' i (.done g k gs ps::I)
@[irreducible] def PXm(E:SynE)(I:List Item)(n:Nat)(v:Value)(m:Nat)(ps:List Prt)(e:Ending)(W':World):Prop:=∃k gs,∃i:Nat,i=m/\e=.returned v/\St E W' i (.done n k gs ps::I)
section
variable {E:SynE} {W:World} {j n m:Nat} {I:List Item} {ps:List Prt} {v:Value} {Q Q':Ending->World->Prop} {f:FuncId} {args:Array Value}
theorem xV(h:Calls Tryz.prog f args W (PX E I n ps))(k:∀g k gs i W',Hid (St E W' i (.done g k gs ps::I))->Hid (i=n)->Q' (.returned (ptrV g)) W'):Calls Tryz.prog f args W Q' :=
 h.mono λe W' h'=>by
  unfold PX at h';obtain⟨g,k',gs,i,hi,rfl,hs⟩:=h';exact k _ _ _ _ _ (Hd hs) (Hd hi)
theorem xI(HF:Hid (SynF E))(HS:Hid (St E W j I))(k:∀Q,Hid (∀W g k gs i,i=n->St E W i (.done g k gs ps::I)->Q (.returned (ptrV g)) W)->E.N<=1000000->j<=E.N->Calls Tryz.prog f args W Q):Calls Tryz.prog f args W (PX E I n ps) :=
 k _ (Hd λW g k gs i hi h=>by unfold PX;exact⟨g,k,gs,i,hi,rfl,h⟩) (SynF.N HF) HS.out.r.le
theorem xA(HF:Hid (SynF E))(HS:Hid (St E W j I))(hn:namedB E (j:Int)=true)(k:∀g i W',Hid (St E W' i (.done g 26 [] [(26,0,textZ E 26 j)]::I))->Hid (i=j+1)->Q' (.returned (ptrV g)) W'):Calls Tryz.prog 60 #[ptrV E.gr] W Q' :=
 (zPl HF.out HS.out).mono λe W' h'=>by
  unfold PL at h';rw[hn]at h';rcases h' with⟨_,g,rfl,hs⟩|⟨h,_⟩
  .exact k _ _ _ (Hd hs) (Hd rfl)
  .cases h
theorem xmV(h:Calls Tryz.prog f args W (PXm E I n v m ps))(k:∀k gs i W',Hid (St E W' i (.done n k gs ps::I))->Hid (i=m)->Q' (.returned v) W'):Calls Tryz.prog f args W Q' :=
 h.mono λe W' h'=>by
  unfold PXm at h';obtain⟨k',gs,i,hi,rfl,hs⟩:=h';exact k _ _ _ _ (Hd hs) (Hd hi)
theorem xmI(HF:Hid (SynF E))(HS:Hid (St E W j I)){I':List Item}(k:∀Q,Hid (∀W k gs i,i=m->St E W i (.done n k gs ps::I')->Q (.returned v) W)->E.N<=1000000->j<=E.N->Calls Tryz.prog f args W Q):Calls Tryz.prog f args W (PXm E I' n v m ps) :=
 k _ (Hd λW k gs i hi h=>by unfold PXm;exact⟨k,gs,i,hi,rfl,h⟩) (SynF.N HF) HS.out.r.le
theorem xW(HF:Hid (SynF E))(HS:Hid (St E W j I))(w:List UInt8)(hx:(wordZ E (j:Int)).toList=w)(k:∀i W',Hid (St E W' i I)->i=j+1->i<=E.N->Q' (.returned (.tuple #[])) W')(hw:w≠[]:=by decide):Calls Tryz.prog 59 #[ptrV E.gr,.string ⟨w.toArray⟩] W Q' :=
 (zDp HF.out HS.out w hw).mono λe W' h'=>by
  unfold PW at h';rcases h' with⟨_,rfl,hs⟩|⟨h,_⟩
  .exact k _ _ (Hd hs) rfl hs.r.le
  .unfold isW at h;rw[hx]at h;simp at h
theorem xMy(HF:Hid (SynF E))(HS:Hid (St E W j I))(w:List UInt8)(hx:(wordZ E (j:Int)).toList=w)(k:∀i W',Hid (St E W' i I)->i=j+1->i<=E.N->Q' (.returned (.bool true)) W')(hw:w≠[]:=by decide):Calls Tryz.prog 38 #[ptrV E.gr,.string ⟨w.toArray⟩] W Q' :=
 (zBz HF.out HS.out w hw).mono λe W' h'=>by
  have hy:isW E j w=true:=by unfold isW;rw[hx];simp
  unfold PM at h';rw[hy]at h';obtain⟨rfl,hs⟩:=h';exact k _ _ (Hd hs) rfl hs.r.le
theorem xMn(HF:Hid (SynF E))(HS:Hid (St E W j I))(w:List UInt8)(hx:(wordZ E (j:Int)).toList≠w)(k:∀W',Hid (St E W' j I)->Q' (.returned (.bool false)) W')(hw:w≠[]:=by decide):Calls Tryz.prog 38 #[ptrV E.gr,.string ⟨w.toArray⟩] W Q' :=
 (zBz HF.out HS.out w hw).mono λe W' h'=>by
  have hy:isW E j w=false:=by unfold isW;rw[bE];exact hx
  unfold PM at h';rw[hy]at h';obtain⟨rfl,hs⟩:=h';exact k _ (Hd hs)
theorem yIv{k:Nat}{w f t:Int}{gs:List Nat}(HF:Hid (SynF E))(HS:Hid (St E W j (.raw n (nodeC k w f t v)::.row v gs ps::I)))(hw:w=-1)(hg:gs.length=1)(hd:(wordZ E (j:Int)).toList=[46]){x:ByteArray}(hn:TokIs E (j+1) (.nm x)):Calls Tryz.prog 178 #[ptrV E.gr,ptrV n] W (PXm E I n (.tuple #[]) (j+2) ((29,2,bE0)::(ps++[(26,0,x)]))):=by
 subst hw;refine xmI HF HS λQ HQ hN hj=>?_;have HN:=Hd λ(i:Nat)(h:i=j+1)=>by have:=hn.nm;rw[<-h]at this;exact this
 have hjN:j+1<=E.N:=by have:=hn.nm.2.2.2.2;omega
 clear hn hd;go_enter Tryz.func178,Tryz.ntmps178;obtain⟨hw,c3,z3,i1,HS1,hi1⟩:=mI HS HS hN;have hi:i1=j+1:=Z;obtain⟨n1,n2,n3,n4,n5⟩:=HN.out i1 hi;go_wp2_with fail;refine xMn HF HS1 [40] (by rw[n2];decide) λw2 HS2=>?_;clear c3 z3 hw HS HS1;obtain⟨c0,c1,c4,cz,cn,cn2⟩:=HS2.out.ncell t0;have HS13:=Hd (HS2.out.setK [] 29);go_wp2_with fail;refine xA HF HS13 n3 λg14 i14 w14 HS14 hi14=>?_;clear c0 c1 c4 cz cn cn2 HS2 HS13;have hh:=hi14.out;go_wp2_with fail;refine mC HF [_] HS14 (gs1 HS14) (λw15 HS15=>?_);go_wp2_with fail;go_end0;have h2:=HS15.out.tl;rw[n4 26 V,tz0 E 29 V,lA,hg,List.append_nil]at h2;exact HQ.out _ _ _ _ Z h2
end
def stopW:List (List UInt8):=[[41],[93],[44],[58],[46,46,46],[59]]
def StopE(E:SynE)(j:Nat):Prop:=(wordZ E (j:Int)).toList∈stopW
def firstW:List (List UInt8):=[[],[40],[42],[43],[45],[33],[94],[38],[60,45]]
theorem xG{E:SynE}:∀{z:ExT},z.srt=1->z.wok->∀{j:Nat}{r:List XTk},Spell E j (z.toks++r)->(wordZ E (j:Int)).toList∈firstW
 | .none,h,_,j,r,hs=>by simp[ExT.srt]at h
 | .nil,h,_,j,r,hs=>by simp[ExT.srt]at h
 | .cons _ _,h,_,j,r,hs=>by simp only[ExT.srt]at h;split at h<;>omega
 | .name w,_,_,j,r,hs=>by rw[hs.1.nm.2.1];decide
 | .lit w,_,_,j,r,hs=>by rw[hs.1.lt.2.1];decide
 | .paren a,_,_,j,r,hs=>by rw[hs.1.sg.2.1];decide
 | .star a,_,_,j,r,hs=>by rw[hs.1.sg.2.1];decide
 | .un w a,_,hw,j,r,hs=>by
  rw[hs.1.sg.2.1];have:∀x∈ExT.unW,x∈firstW:=V;exact this _ hw.2
 | .sel a _,h,hw,j,r,hs=>by
  simp only[ExT.srt]at h;split at h;rotate_left;omega;rename_i ha;simp only[ExT.toks,List.append_assoc]at hs;exact xG ha hw hs
 | .index a _,h,hw,j,r,hs=>by
  simp only[ExT.srt]at h;split at h;rotate_left;omega;rename_i ha;simp only[ExT.toks,List.append_assoc]at hs;exact xG ha.1 hw.1 hs
 | .slice a _ _ _,h,hw,j,r,hs=>by
  simp only[ExT.srt]at h;split at h;rotate_left;omega;rename_i ha;simp only[ExT.toks,List.append_assoc]at hs;exact xG ha.1 hw.1 hs
 | .call a _ _,h,hw,j,r,hs=>by
  simp only[ExT.srt]at h;split at h;rotate_left;omega;rename_i ha;simp only[ExT.toks,List.append_assoc]at hs;exact xG ha.1 hw.1 hs
 | .bin _ a _,h,hw,j,r,hs=>by
  simp only[ExT.srt]at h;split at h;rotate_left;omega;rename_i ha;simp only[ExT.toks,List.append_assoc]at hs;exact xG ha.1 hw.1 hs
theorem fT{w:List UInt8}{u:ByteArray}(h:u.toList∈firstW)(hw:w∉firstW:=by decide):(u.toList==w)=false:=by
 rw[bE];rintro rfl;exact hw h
def XE(E:SynE)(z:ExT):Prop:=∀(W:World)(j:Nat)(I:List Item),Hid (St E W j I)->Spell E j z.toks->StopE E (j+z.toks.length)->Calls Tryz.prog 35 #[ptrV E.gr] W (PX E I (j+z.toks.length) z.flat)
section
variable {E:SynE} {W:World} {j n m:Nat} {I:List Item} {ps:List Prt} {v:Value} {Q Q':Ending->World->Prop} {f:FuncId} {args:Array Value}
theorem zCc{x:ExT}(h:x.srt=2):x=.none:=by
 cases x<;>first|rfl|(exfalso;simp only[ExT.srt]at h;(try split at h)<;>omega)
theorem zUz{x:ExT}(h:x.srt=1):x.isNone=false:=by
 cases x<;>first|rfl|simp[ExT.srt]at h
def sliceT(c d:ExT):List XTk:=c.toks++((if d.isNone then[]else .sg [58]::d.toks)++[.sg [93]])
theorem zQb{k:Nat}{w f t:Int}{gs:List Nat}{gl kl:Nat}{sl:List Nat}{pl:List Prt}{c d:ExT}(HF:Hid (SynF E))(HS:Hid (St E W j (.done gl kl sl pl::.raw n (nodeC k w f t v)::.row v gs ps::I)))(hw:w=-1)(hg:gs.length=1)(hc:c.srt=2/\d.srt=2\/c.srt=1/\c.wok/\XE E c/\(d.srt=2\/d.srt=1/\d.wok/\XE E d))(hs:Spell E j (sliceT c d)):Calls Tryz.prog 219 #[ptrV E.gr,ptrV n,ptrV gl] W (PXm E I n (ptrV n) (j+(sliceT c d).length) ((31,4,bE0)::(ps++(pl++(c.flat++d.flat))))):=by
 subst hw;refine xmI HF HS λQ HQ hN hj=>?_;go_enter Tryz.func219,Tryz.ntmps219;obtain⟨c0,c1,c4,cz,cn,cn2⟩:=HS.out.ncell t1;have HS1:=Hd (HS.out.setK [_] 31);go_wp2_with fail;refine mZ HS1 0 λg2 w2 HS2=>?_;clear c0 c1 c4 cz cn cn2 HS HS1;go_wp2_with fail;refine mZ HS2 0 λg3 w3 HS3=>?_;go_wp2_with fail;refine mX HF HS3 λw4 HS4=>?_;rcases hc with⟨hc,hd⟩|⟨hc,hcw,HC,hd⟩
 .obtain rfl:=zCc hc;obtain rfl:=zCc hd;have hx:=hs.1.sg.2.1;go_wp2_with fail;refine xW HF HS4 [93] hx λi6 w6 HS6 hi6 hn6=>?_;clear HS4;go_wp2_with fail;refine mC HF [_,_,_] HS6 (gs3 HS6) (λw7 HS7=>?_);go_wp2_with fail;have h2:=HS7.out.tl.tl.tl;rw[tz0 E 31 V,tz0 E 0 V,lA,hg,List.append_nil]at h2;exact HQ.out _ _ _ _ hi6 h2
 obtain⟨s1,s2⟩:=Spell.app hs;have hf:=xG hc hcw hs;have hn5:((wordZ E (j:Int)).toList==[93])=false:=fT hf;have hst:StopE E (j+c.toks.length):=by
  cases hdn:d.isNone with
  |true=>rw[hdn]at s2;unfold StopE;rw[s2.1.sg.2.1];decide
  |false=>rw[hdn]at s2;unfold StopE;rw[s2.1.sg.2.1];decide
 have HS2':=Hd s2;clear s2 hs hf;go_wp2_with fail;refine xV (HC _ _ _ HS4 s1 hst) λg8 k8 s8 i8 w8 HS8 hi8=>?_;clear hn5 HS4 s1 hst;have h8:=hi8.out;subst h8;go_wp2_with fail;refine mZ HS8 0 λg9 w9 HS9=>?_;go_wp2_with fail;rcases hd with hd|⟨hd,hdw,HD⟩
 .obtain rfl:=zCc hd;have hx:=HS2'.out.1.sg.2.1;refine xMn HF HS9 [58] (by rw[hx];decide) λw10 HS10=>?_;go_wp2_with fail;refine xW HF HS10 [93] hx λi14 w14 HS14 hi14 hn14=>?_;go_wp2_with fail;refine mC HF [_,_,_,_,_] HS14 (.cons (HS14.out.ok _ t4) (.cons (HS14.out.ok _ t1) (.cons (HS14.out.ok _ t0) (.nil _ _ _)))) (λw15 HS15=>?_);go_wp2_with fail;have h2:=HS15.out.tl.tl.tl.tl.tl;rw[tz0 E 31 V,tz0 E 0 V,lA,hg,List.append_nil]at h2;exact HQ.out _ _ _ _ (by rw[hi14];simp[sliceT,ExT.isNone];omega) h2
 .have hs2:=HS2'.out;rw[zUz hd,iN V]at hs2;have hx:=hs2.1.sg.2.1;refine xMy HF HS9 [58] hx λi10 w10 HS10 hi10 hn10=>?_;obtain⟨s3,s4⟩:=Spell.app hs2.2;rw[<-hi10]at s3 s4;go_wp2_with fail;refine xV (HD _ _ _ HS10 s3 (by unfold StopE;rw[s4.1.sg.2.1];decide)) λg11 k11 s11 i11 w11 HS11 hi11=>?_;have h11:=hi11.out;subst h11;go_wp2_with fail;refine xW HF HS11 [93] s4.1.sg.2.1 λi12 w12 HS12 hi12 hn12=>?_;go_wp2_with fail;refine mC HF [_,_,_,_,_,_] HS12 (.cons (HS12.out.ok _ t5) (.cons (HS12.out.ok _ t2) (.cons (HS12.out.ok _ t0) (.nil _ _ _)))) (λw13 HS13=>?_);go_wp2_with fail;have h2:=HS13.out.tl.tl.tl.tl.tl.tl;rw[tz0 E 31 V,lA,hg,List.append_nil]at h2;exact HQ.out _ _ _ _ (by rw[hi12,hi10];simp[sliceT,zUz hd];omega) h2
def AllE(E:SynE):ExT->Prop
 | .cons a r=>a.srt=1/\a.wok/\XE E a/\AllE E r
 | .nil=>True
 |_=>False
def restT(r:ExT)(x:List XTk):List XTk:=(if r.isNil then[]else .sg [44]::r.toks)++x
theorem zLg{j:Nat}{r:ExT}{w:List UInt8}{x:List XTk}(hw:w∈stopW)(h:Spell E j (restT r (.sg w::x))):StopE E j:=by
 unfold StopE;unfold restT at h;cases hn:r.isNil with
 |true=>rw[hn]at h;rw[h.1.sg.2.1];exact hw
 |false=>rw[hn]at h;rw[h.1.sg.2.1];decide
@[irreducible] def xiRel(E:SynE)(I:List Item)(e cn:Nat)(fl:List Prt)(kv:Value)(W:World):Prop :=
 ∃gs ps,∃i:Nat,∃r:ExT,(∃a n c,kv=.slice a n c)/\St E W i (.row kv gs ps::I)/\AllE E r/\ps++r.flat=fl/\gs.length+r.cnt=cn/\Spell E i (restT r [.sg [93]])/\i+(restT r [.sg [93]]).length=e
theorem yBo{k:Nat}{w f t:Int}{gs:List Nat}{a r:ExT}(HF:Hid (SynF E))(HS:Hid (St E W j (.raw n (nodeC k w f t v)::.row v gs ps::I)))(hw:w=-1)(hg:gs.length=1)(hr:AllE E (.cons a r))(hcn:r.cnt<=10000)(hs:Spell E j (.sg [91]::(a.toks++restT r [.sg [93]]))):Calls Tryz.prog 182 #[ptrV E.gr,ptrV n] W (PXm E I n (ptrV n) (j+(1+a.toks.length+(restT r [.sg [93]]).length)) ((30,2,bE0)::(ps++((11,((r.cnt+1:Nat):Int),bE0)::(a.flat++r.flat))))):=by
 subst hw;refine xmI HF HS λQ HQ hN hj=>?_;have hjN:j+1<=E.N:=by have:=hs.1.sg.2.2.2;omega
 obtain⟨s0,s1⟩:=hs;have HS1':=Hd s1;clear s0 s1;obtain⟨ha,haw,HA,hr⟩:=hr;have HRr:=Hd hr;clear hr;go_enter Tryz.func182,Tryz.ntmps182;obtain⟨c0,c1,c4,cz,cn,cn2⟩:=HS.out.ncell t0;have HS1:=Hd (HS.out.setK [] 30);obtain⟨hw,c3,z3,i2,HS2,hi2⟩:=mI HS HS1 hN;go_wp2_with fail;refine mZ HS2 0 λg3 w3 HS3=>?_;clear c0 c1 c4 cz cn cn2 HS c3 z3 hw HS1 HS2;have hi:i2=j+1:=Z;have HS1i:=HS1'.out;rw[<-hi]at HS1i;have HI2:=Hd hi;clear hi;go_wp2_with fail;refine mX HF HS3 λw4 HS4=>?_;have hf:=xG ha haw HS1i;have hn5:((wordZ E (i2:Int)).toList==[58])=false:=fT hf;obtain⟨s1,s2⟩:=Spell.app HS1i;have hst:StopE E (i2+a.toks.length):=zLg V s2;have HS2':=Hd s2;clear s2 hf HS1' HS1i;go_wp2_with fail;refine xV (HA _ _ _ HS4 s1 hst) λg8 k8 s8 i8 w8 HS8 hi8=>?_;clear hn5 HS4 s1 hst;have h8:=hi8.out;have HS2i:=HS2'.out;rw[<-h8]at HS2i;have HS3':=Hd HS2i;clear HS2i HS2' h8;have hn58:(wordZ E (i8:Int)).toList≠[58]:=by
  have s2:=HS3'.out;unfold restT at s2;cases hdn:r.isNil with
  |true=>rw[hdn]at s2;rw[s2.1.sg.2.1];decide
  |false=>rw[hdn]at s2;rw[s2.1.sg.2.1];decide
 go_wp2_with fail;refine xMn HF HS8 [58] hn58 λw9 HS9=>?_;go_wp2_with fail;have HR:Hid (xiRel E (.done g8 k8 s8 a.flat::.done g3 0 [] [(0,0,textZ E 0 (-1))]::.raw n (nodeC 30 (-1) f t v)::.row v gs ps::I) (j+(1+a.toks.length+(restT r [.sg [93]]).length)) (r.cnt+1) (a.flat++r.flat) (.slice (some ⟨w9.heap.size,0,none⟩) 1 1) (w9.alloc (.cells #[ptrV g8] 41))):=Hd (by
  unfold xiRel;exact⟨[g8],_,_,r,⟨_,_,_,rfl⟩,(HS9.out.lit [g8] _ (by have:=GoodS.cons (HS9.out.ok _ (.head _)) (GoodS.nil _ _ _);simpa using this) Ob),HRr.out,rfl,by simp;omega,HS3'.out,by have:=hi8.out;omega⟩)
 generalize hEE:j+(1+a.toks.length+(restT r [.sg [93]]).length)=ee at *;go_loopw [6] (λkv wr=>xiRel E _ ee (r.cnt+1) (a.flat++r.flat) kv wr) (λ_ wr=>E.N-rdAt E wr)
 case atStart=>exact HR.out
 case round =>
  unfold xiRel at hrel;obtain⟨gx,px,i,rr,⟨va,vn,vc,rfl⟩,hst,hall,hfl,hcnt,hsp,hend⟩:=hrel;have HSr:=Hd hst;have hiN:=hst.r.le;have HM0:Hid (E.N-rdAt E wr=E.N-i):=Hd (by rw[HSr.out.rdAt]);clear hst HR HS9 HS8;go_wp2_with fail;refine mX HF HSr λw11 HS11=>?_;cases rr with
  |nil =>
   have hx:=hsp.1.sg.2.1;have HE:Hid (i+1=ee):=Hd hend;have hcl:gx.length<=1000000000:=by simp[ExT.cnt]at hcnt;omega
   have HF2:Hid (px=a.flat++r.flat/\gx.length=r.cnt+1):=Hd ⟨by simpa[ExT.flat]using hfl,by simpa[ExT.cnt]using hcnt⟩;clear hfl hcnt hsp hend;go_wp2_with fail;refine mD HF HS11 11 λg23 w23 HS23=>?_;go_wp2_with fail;refine xMn HF HS23 [44] (by rw[hx];decide) λw24 HS24=>?_;go_wp2_with fail;refine xW HF HS24 [93] hx λi27 w27 HS27 hi27 hn27=>?_;have HI27:=Hd hi27;clear hi27;go_wp2_with fail;refine mC HF [_,_,_] HS27 (gs1 HS27) (λw28 HS28=>?_);go_wp2_with fail;have h2:=HS28.out.tl.tl.tl;rw[tz0 E 30 V,tz0 E 11 V,lA,hg,List.append_nil,HF2.out.1,HF2.out.2]at h2;exact HQ.out _ _ _ _ (by have:=HI27.out;have:=HE.out;omega) h2
  |cons b r2 =>
   obtain⟨hb,hbw,HB,hr2⟩:=hall;have hsp':Spell E i (.sg [44]::(b.toks++restT r2 [.sg [93]])):=by
    have:=hsp
    simpa[restT,ExT.isNil,ExT.toks]using this
   have hend':i+(1+b.toks.length+(restT r2 [.sg [93]]).length)=ee:=by
    rw[<-hend];simp[restT,ExT.isNil,ExT.toks];omega
   have hx12:=hsp'.1.sg.2.1;have hiL:=hsp'.1.sg.2.2.2;have hf:=xG hb hbw hsp'.2;have hx14:((wordZ E ((i:Int)+1)).toList==[93])=false:=fT hf;have HSP:=Hd hsp'.2;have HEND:=Hd hend';have HFL:=Hd hfl;have HCN:=Hd hcnt;clear hsp hsp' hend hend' hf hfl hcnt;have hw1:IntKind.i64.wrap ((i:Int)+1)=(i:Int)+1:=wi64 _ Z;have c3:=HS11.out.r.c3;have z3:=HS11.out.r.z 3;go_wp2_with fail;refine mQ (yX HF.out HS11.out.r ((i:Int)+1) Z) HS11 λw13 HS13=>?_;clear hw1 c3 z3 HS11;obtain⟨hw,c3,z3,i21,HS21,hi21⟩:=mI HS13 HS13 hN;go_wp2_with fail;have h21:i21=i+1:=Z;have hsp:=HSP.out;rw[<-h21]at hsp;obtain⟨s1,s2⟩:=Spell.app hsp;have hst:=zLg V s2;have HS2x:=Hd s2;have H21:=Hd h21;clear hsp s2 h21 hi21;refine xV (HB _ _ _ HS21 s1 hst) λg22 k22 s22 i22 w22 HS22 hi22=>?_;clear c3 z3 hw HS13 hx12 hx14 HS21 s1 hst;obtain⟨v',w22a,hru,hs4,a4,n4,c4,rfl⟩:=St.append1 [_] HS22.out (.head _) (by have:=HCN.out;simp[ExT.cnt]at this;omega);have HRUN:=Hd hru;have HR:Hid (xiRel E (.done g8 k8 s8 a.flat::.done g3 0 [] [(0,0,textZ E 0 (-1))]::.raw n (nodeC 30 (-1) f t v)::.row v gs ps::I) ee (r.cnt+1) (a.flat++r.flat) (.slice a4 n4 c4) w22a):=Hd (by
    unfold xiRel;exact⟨_,_,_,r2,⟨_,_,_,rfl⟩,hs4.tl,hr2,by rw[List.append_assoc];exact HFL.out,by have:=HCN.out;simp[ExT.cnt]at this ⊢;omega,by rw[hi22.out];exact HS2x.out,by have:=hi22.out;have:=H21.out;have:=HEND.out;omega⟩)
   have HM:Hid (E.N-rdAt E w22a<E.N-rdAt E wr):=Hd (by rw[HM0.out,hs4.rdAt];have:=hi22.out;have:=H21.out;omega);clear hru hs4;go_wp2_with (at_builtin;refine zE rfl _ _ _ _ HRUN.out rfl rfl rfl rfl ?_);exact⟨HR.out,HM.out⟩
  |_=>exact hall.elim
end
section
variable {E:SynE} {W:World} {j n m:Nat} {I:List Item} {ps:List Prt} {v:Value} {Q Q':Ending->World->Prop} {f:FuncId} {args:Array Value}
theorem PXm.tightQ(g:Nat):TightQ E (PXm E I n (ptrV g) m ps):=by
 refine⟨λe W h=>?_,λu W t h=>?_⟩
 .unfold PXm at h;obtain⟨k,gs,i,hi,rfl,hs⟩:=h;exact Or.inl ⟨_,rfl,_,_,hs⟩
 .unfold PXm at h ⊢;obtain⟨k,gs,i,hi,e,hs⟩:=h;exact⟨k,gs,i,hi,e,hs.tight t⟩
theorem PX.tightQ:TightQ E (PX E I n ps):=by
 refine⟨λe W h=>?_,λu W t h=>?_⟩
 .unfold PX at h;obtain⟨g,k,gs,i,hi,rfl,hs⟩:=h;exact Or.inl ⟨_,rfl,_,_,hs⟩
 .unfold PX at h ⊢;obtain⟨g,k,gs,i,hi,e,hs⟩:=h;exact⟨g,k,gs,i,hi,e,hs.tight t⟩
def SlE(E:SynE)(b c d:ExT):Prop:=(b.srt=2\/b.srt=1/\b.wok/\XE E b)/\(c.srt=2/\d.srt=2\/c.srt=1/\c.wok/\XE E c/\(d.srt=2\/d.srt=1/\d.wok/\XE E d))
theorem yBp{k:Nat}{w f t:Int}{gs:List Nat}{b c d:ExT}(HF:Hid (SynF E))(HS:Hid (St E W j (.raw n (nodeC k w f t v)::.row v gs ps::I)))(hw:w=-1)(hg:gs.length=1)(hc:SlE E b c d)(hs:Spell E j (.sg [91]::(b.toks++.sg [58]::sliceT c d))):Calls Tryz.prog 182 #[ptrV E.gr,ptrV n] W (PXm E I n (ptrV n) (j+(2+b.toks.length+(sliceT c d).length)) ((31,4,bE0)::(ps++(b.flat++(c.flat++d.flat))))):=by
 subst hw;refine xmI HF HS λQ HQ hN hj=>?_;have hjN:j+1<=E.N:=by have:=hs.1.sg.2.2.2;omega
 obtain⟨s0,s1⟩:=hs;obtain⟨hb,hc⟩:=hc;have HS1':=Hd s1;have HC:=Hd hc;clear s0 s1 hc;go_enter Tryz.func182,Tryz.ntmps182;obtain⟨c0,c1,c4,cz,cn,cn2⟩:=HS.out.ncell t0;have HS1:=Hd (HS.out.setK [] 30);obtain⟨hw,c3,z3,i2,HS2,hi2⟩:=mI HS HS1 hN;go_wp2_with fail;refine mZ HS2 0 λg3 w3 HS3=>?_;clear c0 c1 c4 cz cn cn2 HS c3 z3 hw HS1 HS2;have hi:i2=j+1:=Z;have HS1i:=HS1'.out;rw[<-hi]at HS1i;have HI2:=Hd hi;clear hi HS1';go_wp2_with fail;refine mX HF HS3 λw4 HS4=>?_;rcases hb with hb|⟨hb,hbw,HB⟩
 .obtain rfl:=zCc hb;have hx5:=HS1i.1.sg.2.1;have HX5:=Hd hx5;have HT:=Hd HS1i.2;clear HS1i;go_wp2_with fail;refine xMy HF HS4 [58] HX5.out λi6 w6 HS6 hi6 hn6=>?_;have HT6:=HT.out;rw[<-hi6]at HT6;have HI6:=Hd hi6;have HCC:=Hd (zQb HF HS6 rfl hg HC.out HT6);clear hi6 HT6 hx5;go_wp2_with fail;refine xmV HCC.out λk7 s7 i7 w7 HS7 hi7=>?_;go_wp2_with fail;have h2:=HS7.out;rw[tz0 E 0 V]at h2;exact HQ.out _ _ _ _ (by have:=hi7.out;have:=HI6.out;have:=HI2.out;simp[ExT.toks];omega) h2
 .obtain⟨s1,s2⟩:=Spell.app HS1i;have hf:=xG hb hbw HS1i;have hn5:((wordZ E (i2:Int)).toList==[58])=false:=fT hf;have hst:StopE E (i2+b.toks.length):=by unfold StopE;rw[s2.1.sg.2.1];decide
  have HT:=Hd s2;clear s2 hf HS1i;go_wp2_with fail;refine xV (HB _ _ _ HS4 s1 hst) λg8 k8 s8 i8 w8 HS8 hi8=>?_;clear hn5 HS4 s1 hst;have HT8:=HT.out;rw[<-hi8.out]at HT8;have HX8:=Hd HT8.1.sg.2.1;have HT9:=Hd HT8.2;clear HT8 HT;go_wp2_with fail;refine xMy HF HS8 [58] HX8.out λi9 w9 HS9 hi9 hn9=>?_;have HSp:=Hd HS9.out.pop2;have HT6:=HT9.out;rw[<-hi9]at HT6;have HI9:=Hd hi9;have HCC:=Hd (zQb HF HSp rfl hg HC.out HT6);clear hi9 HT6 HS9;go_wp2_with fail;refine xmV HCC.out λk7 s7 i7 w7 HS7 hi7=>?_;go_wp2_with fail;exact HQ.out _ _ _ _ (by have:=hi7.out;have:=HI9.out;have:=HI2.out;have:=hi8.out;omega) HS7.out
def dotT(w:ByteArray):List XTk:=if w.size=0 then[]else[.sg w.toList]
@[irreducible] def PXw(E:SynE)(J:Item)(C:Int->List Item)(ps:List Prt)(m:Nat)(wd:ByteArray)(e:Ending)(W':World):Prop:=∃g k gs z,∃i:Nat,i=m/\e=.returned (ptrV g)/\St E W' i (.done g k gs ps::J::C z)/\textZ E 34 (cw E z)=wd/\(wd=bE0->z=-1)
theorem zXf{wd:ByteArray}(h:wd=bE0\/wd.toList=[46,46,46]):(wd=bE0/\dotT wd=[])\/(wd.toList=[46,46,46]/\dotT wd=[.sg [46,46,46]]):=by
 rcases h with rfl|h
 .exact Or.inl ⟨rfl,rfl⟩
 .refine Or.inr ⟨h,?_⟩;have:wd.size=3:=by rw[<-ByteArray.size_data,<-Array.length_toList,<-ByteArray.toList_eq,h];rfl
  unfold dotT;rw[iN Z,h]
theorem zNf{a b:ByteArray}(h:a.toList=b.toList):a=b:=by
 rw[ByteArray.toList_eq,ByteArray.toList_eq]at h;exact ByteArray.ext (Array.toList_inj.1 h)
theorem yFh{J:Item}{nb rb:Nat}{z0:Int}{gs:List Nat}{b:ExT}{wd:ByteArray}(HF:Hid (SynF E))(HB:XE E b)(hwd:wd=bE0\/wd.toList=[46,46,46])(HS:Hid (St E W j (J::callI E nb rb n z0 v gs ps I (-1))))(hs:Spell E j (b.toks++dotT wd))(hst:StopE E (j+(b.toks++dotT wd).length))(hnd:(wordZ E ((j+(b.toks++dotT wd).length:Nat):Int)).toList≠[46,46,46]):Calls Tryz.prog 218 #[ptrV nb,ptrV rb] W (PXw E J (callI E nb rb n z0 v gs ps I) b.flat (j+(b.toks++dotT wd).length) wd):=by
 obtain⟨Q,hQ,HQ⟩:∃Q,PXw E J (callI E nb rb n z0 v gs ps I) b.flat (j+(b.toks++dotT wd).length) wd=Q/\Hid (∀W g k gs' i z,i=j+(b.toks++dotT wd).length->St E W i (.done g k gs' b.flat::J::callI E nb rb n z0 v gs ps I z)->textZ E 34 (cw E z)=wd->(wd=bE0->z=-1)->Q (.returned (ptrV g)) W):=⟨_,rfl,Hd λW g k gs' i z h1 h2 h3 h4=>by unfold PXw;exact⟨g,k,gs',z,i,h1,rfl,h2,h3,h4⟩⟩;rw[hQ];clear hQ;have hN:=SynF.N HF;have HSp:=Hd hs;have HST:=Hd hst;have HND:=Hd hnd;clear hs hst hnd;have hc0:=zPw E;go_enter Tryz.func218,Tryz.ntmps218;obtain⟨c0,c1,c4,cz,cn,cn2⟩:=HS.out.ncell t3;have b_nb:=HS.out.box t1;have b_rb:=HS.out.box t2;rw[hc0]at c1;go_wp2_with fail;obtain⟨s1,s2⟩:=Spell.app HSp.out;rcases zXf hwd with⟨rfl,hd⟩|⟨hw3,hd⟩
 .have hst:=HST.out;have hnd:=HND.out;rw[hd,List.append_nil]at hst hnd;refine xV (HB _ _ _ HS s1 hst) λg2 k2 s2 i2 w2 HS2 hi2=>?_;clear c0 c1 c4 cz cn cn2 b_nb b_rb HS;rw[<-hi2.out]at hnd;have b_nb:=HS2.out.box t2;have b_rb:=HS2.out.box t3;go_wp2_with fail;refine mX HF HS2 λw3 HS3=>?_;clear b_nb b_rb HS2;replace hnd:=nq hnd;have b_nb:=HS3.out.box t2;have b_rb:=HS3.out.box t3;go_wp2_with fail;exact HQ.out _ _ _ _ _ (-1) (by rw[hd,List.append_nil];exact hi2.out) HS3.out (by rw[hc0,tz0 E 34 V]) (λ_=>rfl)
 .rw[hd]at s2;have hst:StopE E (j+b.toks.length):=by unfold StopE;rw[s2.1.sg.2.1];decide
  refine xV (HB _ _ _ HS s1 hst) λg2 k2 s2' i2 w2 HS2 hi2=>?_;clear c0 c1 c4 cz cn cn2 b_nb b_rb HS;rw[<-hi2.out]at s2;have hx4:=s2.1.sg.2.1;have hlt:=s2.1.sg.2.2.2;have HTX:=Hd (s2.1.sg.2.2.1 34 V);clear s2;have b_nb:=HS2.out.box t2;have b_rb:=HS2.out.box t3;go_wp2_with fail;refine mX HF HS2 λw3 HS3=>?_;clear b_nb b_rb HS2;obtain⟨c0,c1,c4,cz,cn,cn2⟩:=HS3.out.ncell t4;have c3:=HS3.out.r.c3;have z3:=HS3.out.r.z 3;have b_nb:=HS3.out.box t2;have b_rb:=HS3.out.box t3;have hcw2:=yGo (E:=E) (i:=i2) Z;have HSw:=Hd (HS3.out.setW [_,_,_,_] (i2:Int));go_upto_region 5 with(fail);go_still_tail 7,Oa;go_upto_region 6 with(fail);have HSd:=Hd (HSw.out.ext (bR _ _).drew);clear c0 c1 c4 cz cn cn2 c3 z3 b_nb b_rb HSw HS3;generalize World.drew (World.setCell w3 ⟨n,1,none⟩ (.int .i64 (i2:Int)))=wd at *;obtain⟨hw,c3,z3,i5,HS5,hi5⟩:=mI HSd HSd hN;have b_nb:=HSd.out.box t2;have d_nbHS5:=HS5.out.box t2;have b_rb:=HSd.out.box t3;have d_rbHS5:=HS5.out.box t3;go_wp2_with fail;refine HQ.out _ _ _ _ i5 (i2:Int) (by have:=hi2.out;rw[hd,lA,List.length_singleton];omega) (by rw[callI,hcw2];exact HS5.out) (by rw[hcw2];exact zNf (HTX.out.trans hw3.symm)) (λe=>by subst e;rw[ByteArray.toList_eq]at hw3;cases hw3)
end
def callT(w:ByteArray):List XTk:=dotT w++[.sg [41]]
@[irreducible] def PXr(E:SynE)(C:Int->List Item)(cn:Nat)(fl:List Prt)(pe:Nat)(wd:ByteArray)(en:Ending)(W':World):Prop:=∃a n c gs z,∃i:Nat,en=.returned (.slice a n c)/\St E W' i (.row (.slice a n c) gs fl::C z)/\gs.length=cn/\textZ E 34 (cw E z)=wd/\(wordZ E (i:Int)).toList=[41]/\i+1=pe
@[irreducible] def xcRel(E:SynE)(C:Int->List Item)(pe cn:Nat)(fl:List Prt)(wd:ByteArray)(kv:Value)(W:World):Prop :=
 ∃gs ps z,∃i:Nat,∃r:ExT,∃x:ByteArray,(∃a n c,kv=.slice a n c)/\St E W i (.row kv gs ps::C z)/\AllE E r/\ps++r.flat=fl/\gs.length+r.cnt=cn/\Spell E i (r.toks++callT x)/\i+(r.toks++callT x).length=pe/\(x=bE0\/x.toList=[46,46,46])/\(r.isNil=true->x=bE0/\textZ E 34 (cw E z)=wd)/\(r.isNil=false->x=wd/\z=-1)
theorem yBq{z:ExT}(h:z.srt=1):0<z.toks.length:=by
 cases z with
 |none|nil=>simp[ExT.srt]at h
 |cons a r=>simp only[ExT.srt]at h;split at h<;>omega
 |_=>simp only[ExT.toks,lA,lC,lN];omega
theorem yBr{E:SynE}{i:Nat}{b:ExT}{r:List XTk}(hb:b.srt=1)(hw:b.wok)(h:Spell E i (b.toks++r)):((wordZ E (i:Int)).toList==[41])=false:=fT (xG hb hw h)
section
variable {E:SynE} {W:World} {j n m:Nat} {I:List Item} {ps:List Prt} {v:Value} {Q Q':Ending->World->Prop} {f:FuncId} {args:Array Value}
theorem yHu(HF:Hid (SynF E))(C:Int->List Item)(HS:Hid (St E W j (C (-1)))){k:FuncId}(hv:FnV v k args){r:ExT}{wd:ByteArray}(hr:AllE E r)(hcn:r.cnt<=10000)(hwd:wd=bE0\/wd.toList=[46,46,46])(hw0:r.isNil=true->wd=bE0)(hs:Spell E j (.sg [40]::(r.toks++callT wd)))(hc:∀W' i kv gs ps b x,XE E b->(x=bE0\/x.toList=[46,46,46])->Hid (St E W' i (.row kv gs ps::C (-1)))->Spell E i (b.toks++dotT x)->StopE E (i+(b.toks++dotT x).length)->(wordZ E ((i+(b.toks++dotT x).length:Nat):Int)).toList≠[46,46,46]->Calls Tryz.prog k args W' (PXw E (.row kv gs ps) C b.flat (i+(b.toks++dotT x).length) x)) :
  Calls Tryz.prog 108 #[ptrV E.gr,.string ⟨#[40]⟩,.string ⟨#[44]⟩,.string ⟨#[41]⟩,v] W (PXr E C r.cnt r.flat (j+1+(r.toks++callT wd).length) wd):=by
 obtain⟨pe,hpe⟩:∃pe,pe=j+1+(r.toks++callT wd).length:=⟨_,rfl⟩;rw[<-hpe];obtain⟨Q,hQ,HQ⟩:∃Q,PXr E C r.cnt r.flat pe wd=Q/\Hid (∀W a n c gs z i,St E W i (.row (.slice a n c) gs r.flat::C z)->gs.length=r.cnt->textZ E 34 (cw E z)=wd->(wordZ E (i:Int)).toList=[41]->i+1=pe->Q (.returned (.slice a n c)) W):=⟨_,rfl,Hd λW a n c gs z i h1 h2 h3 h4 h5=>by unfold PXr;exact⟨a,n,c,gs,z,i,rfl,h1,h2,h3,h4,h5⟩⟩;rw[hQ];clear hQ;have hN:=SynF.N HF;have CC:=Hd hc;have hx0:=hs.1.sg.2.1;have HS0':=Hd hs.2;have HRr:=Hd hr;have HPE:=Hd hpe;have HW0:=Hd hw0;have HWD:=Hd hwd;clear hc hs hr hpe hw0 hwd;obtain⟨hv,he⟩:=hv;rcases hv with rfl|rfl;all_goals
  go_enter Tryz.func108,Tryz.ntmps108;go_wp2_with fail;refine xW HF HS [40] hx0 λi1 w1 HS1 hi1 hn1=>?_;have HR0:Hid (xcRel E C pe r.cnt r.flat wd (.slice none 0 0) w1):=Hd (by
   unfold xcRel;have h:=HS0'.out;rw[<-hi1]at h;exact⟨[],[],-1,i1,r,wd,⟨_,_,_,rfl⟩,HS1.out.nil,HRr.out,rfl,Ob,h,by rw[HPE.out,hi1],HWD.out,λh=>⟨HW0.out h,by rw[HW0.out h,zPw,tz0 E 34 V]⟩,λ_=>⟨rfl,rfl⟩⟩)
  clear hi1 hx0 HS;go_wp2_with fail;go_loopw [11] (λkv wr=>xcRel E C pe r.cnt r.flat wd kv wr) (λkv wr=>E.N-rdAt E wr)
  case atStart=>exact HR0.out
  case round =>
   unfold xcRel at hrel;obtain⟨gx,px,z,i,rr,x,⟨va,vn,vc,rfl⟩,hst,hall,hfl,hcnt,hsp,hend,hxx,hnil,hcons⟩:=hrel;have HSr:=Hd hst;have hiN:=hst.r.le;have HM0:Hid (E.N-rdAt E wr=E.N-i):=Hd (by rw[HSr.out.rdAt]);clear hst HR0 HS1;go_wp2_with fail;refine mX HF HSr λw2 HS2=>?_;cases rr with
   |nil =>
    obtain⟨rfl,hz⟩:=hnil rfl;have hx:=hsp.1.sg.2.1;have HZ:=Hd (HQ.out w2 va vn vc gx z i (by rw[<-hfl];simpa[ExT.flat]using HS2.out) (by simpa[ExT.cnt]using hcnt) hz hx (by rw[<-hend];rfl));clear hsp hfl hcnt hend hz hnil hcons hxx;go_wp2_with fail;exact HZ.out
   |cons b r2 =>
    obtain⟨hb,hbw,HB,hr2⟩:=hall;obtain⟨rfl,rfl⟩:=hcons rfl;have hx:=yBr hb hbw (by rw[ExT.toks,List.append_assoc]at hsp;exact hsp);have hbl:=yBq hb;obtain⟨y,hy0,hy1,hy2⟩:∃y:ByteArray,(y=bE0\/y.toList=[46,46,46])/\(r2.isNil=true->y=x)/\(r2.isNil=false->y=bE0):=by
     cases r2.isNil
     .exact⟨bE0,Or.inl rfl,λh=>(by cases h),λ_=>rfl⟩
     .exact⟨x,hxx,λ_=>rfl,λh=>(by cases h)⟩
    have hsp':Spell E i ((b.toks++dotT y)++(if r2.isNil then[.sg [41]]else .sg [44]::(r2.toks++callT x))):=by
     cases hn:r2.isNil with
     |true=>rw[hy1 hn];simpa[ExT.toks,hn,callT,List.append_assoc]using hsp
     |false=>rw[hy2 hn];simpa[ExT.toks,hn,show dotT bE0=[]from rfl,List.append_assoc]using hsp
    have hend':i+(b.toks++dotT y).length+(if r2.isNil then[.sg [41]]else .sg [44]::(r2.toks++callT x):List XTk).length=pe:=by
     rw[<-hend];cases hn:r2.isNil with
     |true=>rw[hy1 hn];simp[ExT.toks,hn,callT];omega
     |false=>rw[hy2 hn];simp[ExT.toks,hn,show dotT bE0=[]from rfl];omega
    obtain⟨s1,s2⟩:=Spell.app hsp';have hws:(wordZ E ((i+(b.toks++dotT y).length:Nat):Int)).toList=if r2.isNil then[41]else[44]:=by
     cases hn:r2.isNil with
     |true=>rw[hn]at s2;exact s2.1.sg.2.1
     |false=>rw[hn]at s2;exact s2.1.sg.2.1
    have HC1:=Hd (CC.out _ _ _ _ _ _ _ HB hy0 HS2 s1 (by unfold StopE;rw[hws];cases r2.isNil<;>decide) (by rw[hws];cases r2.isNil<;>decide));have HS2x:=Hd s2;have HHS:=Hd hws;have HEND:=Hd hend';have HFL:=Hd hfl;have HCN:=Hd hcnt;have HXX:=Hd hxx;have HY:=Hd (And.intro hy1 hy2);clear hsp hsp' s1 s2 hws hend hend' hfl hcnt hnil hcons hxx hy0 hy1 hy2;go_wp2_with fail;refine HC1.out.mono ?_;intro e w3 h3;unfold PXw at h3;obtain⟨g,kg,ks,z',i',hi',rfl,hs3,hz',hzm⟩:=h3;obtain⟨v',w4,hru,hs4,a4,n4,c4,rfl⟩:=St.append1 [.done g kg ks b.flat] hs3 (g:=g) (k:=kg) (ks:=ks) (p:=b.flat) Ob (by have:=HCN.out;simp[ExT.cnt]at this;omega);have HRUN:=Hd hru;have HS4:=Hd (hs4.tl);have HI':=Hd hi';have HZ':=Hd hz';have HZM:=Hd hzm;clear hs3 hru hs4 HC1 HS2 hi' hz' hzm hx;go_wp2_with (at_builtin;refine zE rfl _ _ _ _ HRUN.out rfl rfl rfl rfl ?_);refine mX HF HS4 λw5 HS5=>?_;have hw5:=HHS.out;rw[<-HI'.out]at hw5;have HS2i:=HS2x.out;rw[<-HI'.out]at HS2i;have HE5:=HEND.out;rw[<-HI'.out]at HE5;have HLT:Hid (i<i'):=Hd (by have:=HI'.out;simp at this;omega);cases hn:r2.isNil with
    |true =>
     obtain rfl:r2=.nil:=by cases r2<;>first|rfl|cases hn
     rw[hn]at hw5 HS2i HE5;have hyx:=HY.out.1 rfl;have HR:Hid (xcRel E C pe r.cnt r.flat x (.slice a4 n4 c4) w5):=Hd (by
      unfold xcRel;exact⟨_,_,z',i',.nil,bE0,⟨_,_,_,rfl⟩,HS5.out,trivial,by rw[List.append_assoc];exact HFL.out,by have:=HCN.out;simp[ExT.cnt]at this ⊢;omega,HS2i,HE5,Or.inl rfl,λ_=>⟨rfl,hyx▸HZ'.out⟩,λh=>by cases h⟩)
     have HM:Hid (E.N-rdAt E w5<E.N-rdAt E wr):=Hd (by rw[HM0.out,HS5.out.rdAt];have:=HLT.out;have:=HS5.out.r.le;omega);clear HS2i HE5 hyx hn;go_wp2_with fail;exact⟨HR.out,HM.out⟩
    |false =>
     rw[hn]at hw5 HS2i HE5;have hyx:=HY.out.2 hn;have HS2j:=Hd HS2i.2;have HE6:Hid (i'+1+(r2.toks++callT x).length=pe):=Hd (by rw[<-HE5];simp;omega);have HNN:=Hd hn;clear HS2i HE5 hn;have hzz:=HZM.out hyx;subst hzz;go_wp2_with fail;refine xW HF HS5 [44] hw5 λi6 w6 HS6 hi6 hn6=>?_;have HR:Hid (xcRel E C pe r.cnt r.flat x (.slice a4 n4 c4) w6):=Hd (by
      unfold xcRel;have h:=HS2j.out;rw[<-hi6]at h;have h7:=HE6.out;rw[<-hi6]at h7;exact⟨_,_,-1,i6,r2,x,⟨_,_,_,rfl⟩,HS6.out,hr2,by rw[List.append_assoc];exact HFL.out,by have:=HCN.out;simp[ExT.cnt]at this ⊢;omega,h,h7,HXX.out,λh=>(by rw[HNN.out]at h;cases h),λ_=>⟨rfl,rfl⟩⟩)
     have HM:Hid (E.N-rdAt E w6<E.N-rdAt E wr):=Hd (by rw[HM0.out,HS6.out.rdAt];have:=HLT.out;omega);clear hi6 hw5;go_wp2_with fail;exact⟨HR.out,HM.out⟩
   |_=>exact hall.elim
theorem yFi{k:Nat}{w f:Int}{gs:List Nat}{r:ExT}{wd:ByteArray}(HF:Hid (SynF E))(HS:Hid (St E W j (.raw n (nodeC k w f 0 v)::.row v gs ps::I)))(hw:w=-1)(hg:gs.length=1)(hr:AllE E r)(hcn:r.cnt<=10000)(hwd:wd=bE0\/wd.toList=[46,46,46])(hw0:r.isNil=true->wd=bE0)(hs:Spell E j (.sg [40]::(r.toks++callT wd))):Calls Tryz.prog 180 #[ptrV E.gr,ptrV n] W (PXm E I n (ptrV n) (j+1+(r.toks++callT wd).length) ((34,2,wd)::(ps++(11,(r.cnt:Int),bE0)::r.flat))):=by
 subst hw;refine xmI HF HS λQ HQ hN hj=>?_;have hmf:=mkf;have HSP:=Hd hs;clear hs;go_enter Tryz.func180,Tryz.ntmps180;have HS0:=Hd ((HS.out.new (.cells #[ptrV E.gr] 44)).new (.cells #[ptrV n] 41));rw[show(W.alloc (.cells #[ptrV E.gr] 44)).heap.size=W.heap.size+1 by simp]at HS0;clear HS;go_upto_region 1 with(fail);generalize(W.alloc (.cells #[ptrV E.gr] 44)).alloc (.cells #[ptrV n] 41)=wb at *;generalize W.heap.size+1=nb at *;generalize W.heap.size=rb at *;have e1:nb≠n:=HS0.out.ne t1 rfl rfl;have e2:rb≠n:=HS0.out.tl.ne t0 rfl rfl;obtain⟨c0,c1,c4,cz,cn,cn2⟩:=HS0.out.ncell t2;have HS1:=Hd (HS0.out.setK [_,_] 34);have b_nb:=HS0.out.box t0;have d_nbHS1:=HS1.out.box t0;have b_rb:=HS0.out.box t1;have d_rbHS1:=HS1.out.box t1;go_wp2_with fail;have HSc:Hid (St E _ j (callI E nb rb n f v gs ps I (-1))):=Hd (by rw[callI,zPw];exact HS1.out);refine(yHu HF (callI E nb rb n f v gs ps I) HSc (FnV.clos (k:=218) Tryz.func218 Oa rfl #[ptrV nb,ptrV rb]) hr hcn hwd hw0 HSP.out (λW' i kv gs' ps' b x h1 h2 h3 h4 h5 h6=>yFh HF h1 h2 h3 h4 h5 h6)).mono ?_;intro e w2 h2;unfold PXr at h2;obtain⟨a2,n2,c2,s2,z,i2,rfl,hs2,hl,hz,hx,hi2⟩:=h2;have hcw:=yBa E z;have HS2:=Hd hs2;have HL:=Hd hl;have HZ:=Hd hz;have HI2:=Hd hi2;have HX:=Hd hx;have hl9:s2.length<=1000000000:=Z;clear hs2 hl hz hi2 hx c0 c1 c4 cz cn cn2 HS0 b_nb d_nbHS1 b_rb d_rbHS1 HSc HS1;have b_nb:=HS2.out.box t1;have b_rb:=HS2.out.box t2;go_wp2_with fail;refine mD HF HS2 11 λg3 w3 HS3=>?_;clear b_nb b_rb HS2;have b_nb:=HS3.out.box t1;have b_rb:=HS3.out.box t2;go_wp2_with fail;refine xW HF HS3 [41] HX.out λi4 w4 HS4 hi4 hn4=>?_;clear b_nb b_rb HS3;have HI4:=Hd hi4;clear hi4;have b_nb:=HS4.out.box t1;have b_rb:=HS4.out.box t2;go_wp2_with fail;refine mC HF [_,_,_] HS4 (gs1 HS4) (λw5 HS5=>?_) (hw:=hcw);clear b_nb b_rb HS4;have b_nb:=HS5.out.box t1;have b_rb:=HS5.out.box t2;go_wp2_with fail;have h2:=HS5.out.tl.tl.tl;rw[HZ.out,tz0 E 11 V,lA,hg,List.append_nil,HL.out]at h2;exact HQ.out _ _ _ _ (by have:=HI2.out;have:=HI4.out;omega) h2
end
inductive Suf where
 |sel (w:ByteArray)
 |index (a r:ExT)
 |slice (b c d:ExT)
 |call (r:ExT) (w:ByteArray)
namespace Suf
def app(a:ExT):Suf->ExT
 |sel w=>.sel a w
 |index x r=>.index a (.cons x r)
 |slice b c d=>.slice a b c d
 |call r w=>.call a r w
def flat(ps:List Prt):Suf->List Prt
 |sel w=>(29,2,bE0)::(ps++[(26,0,w)])
 |index a r=>(30,2,bE0)::(ps++(11,((r.cnt+1:Nat):Int),bE0)::(a.flat++r.flat))
 |slice b c d=>(31,4,bE0)::(ps++(b.flat++(c.flat++d.flat)))
 |call r w=>(34,2,w)::(ps++(11,(r.cnt:Int),bE0)::r.flat)
def toks:Suf->List XTk
 |sel w=>[.sg [46],.nm w]
 |index a r=>.sg [91]::(a.toks++restT r [.sg [93]])
 |slice b c d=>.sg [91]::(b.toks++.sg [58]::sliceT c d)
 |call r w=>.sg [40]::(r.toks++callT w)
def ok(E:SynE):Suf->Prop
 |sel _=>True
 |index a r=>AllE E (.cons a r)/\r.cnt<=10000
 |slice b c d=>SlE E b c d
 |call r w=>AllE E r/\r.cnt<=10000/\(w=bE0\/w.toList=[46,46,46])/\(r.isNil=true->w=bE0)
end Suf
abbrev sufT(L:List Suf):List XTk:=L.flatMap Suf.toks
def sufW:List (List UInt8):=[[46],[40],[91],[123]]
def StopP(E:SynE)(j:Nat):Prop:=(wordZ E (j:Int)).toList∉sufW
theorem StopP.ne{E:SynE}{j:Nat}(h:StopP E j)(w:List UInt8)(hw:w∈sufW:=by decide):((wordZ E (j:Int)).toList==w)=false:=by
 rw[bE];rintro rfl;exact h hw
def OpE(E:SynE):ExT->Prop
 | .name _=>True
 | .lit _=>True
 | .paren a=>XE E a
 |_=>False
@[irreducible] def xqRel(E:SynE)(J:List Item)(pe:Nat)(fl:List Prt)(xv:Value)(W:World):Prop:=∃g k gs px,∃i:Nat,∃L:List Suf,xv=ptrV g/\St E W i (.done g k gs px::J)/\(∀s∈L,s.ok E)/\L.foldl (λp s=>s.flat p) px=fl/\Spell E i (sufT L)/\i+(sufT L).length=pe
section
variable {E:SynE} {W:World} {j n m:Nat} {I:List Item} {ps:List Prt} {v:Value} {Q Q':Ending->World->Prop} {f:FuncId} {args:Array Value}
theorem PXm.sh{e:Ending}{W':World}(h:PXm E I n v m ps e W'):e=.returned v:=by unfold PXm at h;obtain⟨_,_,_,_,h,_⟩:=h;exact h
theorem yFj{rb nb:Nat}(HC:Hid (Calls Tryz.prog 180 #[ptrV E.gr,ptrV n] W (PXm E I n (ptrV n) m ps)))(b0:W.cell? ⟨rb,0,none⟩=some (ptrV E.gr))(b1:W.cell? ⟨nb,0,none⟩=some (ptrV n)):Calls Tryz.prog 179 #[ptrV rb,ptrV nb] W (PXm E I n (ptrV n) m ps):=by
 have HX:=Hd (λe w h=>PXm.sh (E:=E) (I:=I) (n:=n) (v:=ptrV n) (m:=m) (ps:=ps) (e:=e) (W':=w) h);generalize PXm E I n (ptrV n) m ps=Q at *;go_enter Tryz.func179,Tryz.ntmps179;go_wp2_with fail;refine HC.out.mono ?_;intro e w1 h1;obtain rfl:=HX.out _ _ h1;go_wp2_with fail;exact h1
theorem zVa{rb nb:Nat}(HC:Hid (Calls Tryz.prog 182 #[ptrV E.gr,ptrV n] W (PXm E I n (ptrV n) m ps)))(b0:W.cell? ⟨rb,0,none⟩=some (ptrV E.gr))(b1:W.cell? ⟨nb,0,none⟩=some (ptrV n)):Calls Tryz.prog 181 #[ptrV rb,ptrV nb] W (PXm E I n (ptrV n) m ps):=by
 have HX:=Hd (λe w h=>PXm.sh (E:=E) (I:=I) (n:=n) (v:=ptrV n) (m:=m) (ps:=ps) (e:=e) (W':=w) h);generalize PXm E I n (ptrV n) m ps=Q at *;go_enter Tryz.func181,Tryz.ntmps181;go_wp2_with fail;refine HC.out.mono ?_;intro e w1 h1;obtain rfl:=HX.out _ _ h1;go_wp2_with fail;exact h1
theorem yHv{z:ExT}(HF:Hid (SynF E))(HS:Hid (St E W j I))(ho:OpE E z)(hs:Spell E j z.toks)(hst:∀a,z=.paren a->StopE E (j+1+a.toks.length)):Calls Tryz.prog 177 #[ptrV E.gr] W (PX E I (j+z.toks.length) z.flat):=by
 refine xI HF HS λQ HQ hN hj=>?_;have hmf:=mkf;cases z with
 |name w =>
  obtain⟨hl,hw,hn,ht,-⟩:=hs.1.nm;have HT:=Hd (ht 26 V);clear hs ht hst;go_enter Tryz.func177,Tryz.ntmps177;go_wp2_with fail;refine mP HS 28 λg1 w1 HS1=>?_;have c3:=HS1.out.r.c3;have z3:=HS1.out.r.z 3;go_wp2_with fail;refine mQ (fE HF.out HS1.out.r (j:Int) Z) HS1 λw2 HS2=>?_;clear c3 z3 HS1 HS;rw[hl];go_wp2_with fail;refine mX HF HS2 λw5 HS5=>?_;clear HS2;go_wp2_with fail;refine xA HF HS5 hn λg6 i6 w6 HS6 hi6=>?_;go_wp2_with fail;have h2:=HS6.out.pop2.pop2;rw[HT.out]at h2;exact HQ.out _ _ _ _ _ hi6.out h2
 |lit w =>
  obtain⟨hl,hw,ht,hlt⟩:=hs.1.lt;have HT:=Hd (ht 27 V);clear hs ht hst;go_enter Tryz.func177,Tryz.ntmps177;go_wp2_with fail;refine mP HS 28 λg1 w1 HS1=>?_;have c3:=HS1.out.r.c3;have z3:=HS1.out.r.z 3;go_wp2_with fail;refine mQ (fE HF.out HS1.out.r (j:Int) Z) HS1 λw2 HS2=>?_;clear c3 z3 HS1 HS;rw[hl];go_wp2_with fail;refine(zDq HF.out HS2.out 27 V true (λ_=>⟨hlt,yAt hl⟩)).mono ?_;intro e w4 h4;unfold PL at h4;rcases h4 with⟨_,g,rfl,hs4⟩|⟨h,_⟩
  .have HS4:=Hd hs4;clear hs4;go_wp2_with fail;have h2:=HS4.out.pop2.pop2;rw[HT.out]at h2;exact HQ.out _ _ _ _ _ rfl h2
  .cases h
 |paren a =>
  have hx:=hs.1.sg.2.1;have hl:=hs.1.sg.1;have hlt:=hs.1.sg.2.2.2;obtain⟨s1,s2⟩:=Spell.app hs.2;have HS1':=Hd s1;have HS2':=Hd s2;have HST:=Hd (hst a rfl);have HA:Hid (XE E a):=Hd ho;clear hs s1 s2 hst ho;go_enter Tryz.func177,Tryz.ntmps177;go_wp2_with fail;refine mP HS 28 λg1 w1 HS1=>?_;have c3:=HS1.out.r.c3;have z3:=HS1.out.r.z 3;go_wp2_with fail;refine mQ (fE HF.out HS1.out.r (j:Int) Z) HS1 λw2 HS2=>?_;clear c3 z3 HS1 HS;rw[hl];go_wp2_with fail;refine mX HF HS2 λw5 HS5=>?_;obtain⟨hw,c3,z3,i7,HS7,hi7⟩:=mI HS5 HS5 hN;have h7:i7=j+1:=Z;have hsp:=HS1'.out;have hst:=HST.out;rw[<-h7]at hsp hst;have HI7:=Hd h7;have HSP:=Hd hsp;have HST:=Hd hst;clear h7 hi7 hsp hst HS1';go_wp2_with fail;refine xV (vJ PX.tightQ zAl HS7.out (λW' h'=>HA.out _ _ _ (Hd h') HSP.out HST.out)) λg8 k8 s8 i8 w8 HS8 hi8=>?_;clear c3 z3 hw HS5 HS2 HS7 hx;have hs2:=HS2'.out;have HI8:Hid (i8=j+1+a.toks.length):=Hd (by rw[hi8.out,HI7.out]);rw[<-HI8.out]at hs2;go_wp2_with fail;refine xW HF HS8 [41] hs2.1.sg.2.1 λi9 w9 HS9 hi9 hn9=>?_;have HI9:=Hd hi9;clear hi9 hs2;go_wp2_with fail;refine mC HF [_] HS9 (gs1 HS9) (λw10 HS10=>?_);go_wp2_with fail;have h2:=HS10.out.tl;rw[tz0 E 28 V]at h2;exact HQ.out _ _ _ _ i9 (by have:=HI9.out;have:=HI8.out;simp[ExT.toks];omega) (by simpa[ExT.flat]using h2)
 |_=>exact ho.elim
theorem yHw{o:ExT}{L:List Suf}(HF:Hid (SynF E))(HS:Hid (St E W j I))(ho:OpE E o)(hL:∀s∈L,s.ok E)(hs:Spell E j (o.toks++sufT L))(hst:StopP E (j+(o.toks++sufT L).length)):Calls Tryz.prog 149 #[ptrV E.gr] W (PX E I (j+(o.toks++sufT L).length) (L.foldl (λp s=>s.flat p) o.flat)):=by
 obtain⟨pe,hpe⟩:∃pe,pe=j+(o.toks++sufT L).length:=⟨_,rfl⟩;rw[<-hpe]at hst ⊢;obtain⟨fl,hfl⟩:∃fl,fl=L.foldl (λp s=>s.flat p) o.flat:=⟨_,rfl⟩;rw[<-hfl];refine xI HF HS λQ HQ hN hj=>?_;have hmf:=mkf;obtain⟨s1,s2⟩:=Spell.app hs;have HST:=Hd hst;have HPE:=Hd hpe;have HFL:=Hd hfl;have HSL:=Hd s2;have HL:=Hd hL;have HO:=Hd (λW I (HS:Hid (St E W j I))=>yHv HF HS ho s1 (λa e=>by
  subst e;unfold StopE;have h:=(Spell.app s1.2).2.1.sg.2.1;rw[h];decide))
 clear hs hst hpe hfl s1 s2 hL ho;go_enter Tryz.func149,Tryz.ntmps149;have HS0:=Hd (HS.out.new (.cells #[ptrV E.gr] 44));clear HS;go_upto_region 1 with(fail);generalize W.alloc (.cells #[ptrV E.gr] 44)=wb at *;generalize W.heap.size=rb at *;have c3:=HS0.out.r.c3;have z3:=HS0.out.r.z 3;have b_rb:=HS0.out.box t0;go_wp2_with fail;refine xV (HO.out _ _ HS0) λg1 k1 s1 i1 w1 HS1 hi1=>?_;clear c3 z3 b_rb HS0 HO;have HR:Hid (xqRel E (.raw rb (.cells #[ptrV E.gr] 44 (0,0))::I) pe fl (ptrV g1) w1):=Hd (by
  unfold xqRel;have h:=HSL.out;rw[<-hi1.out]at h;exact⟨_,_,_,_,i1,L,rfl,HS1.out,HL.out,HFL.out.symm,h,by rw[HPE.out,hi1.out,lA];omega⟩)
 have b_rb:=HS1.out.box t1;go_wp2_with fail;go_loopw [4] (λxv wr=>xqRel E (.raw rb (.cells #[ptrV E.gr] 44 (0,0))::I) pe fl xv wr) (λ_ wr=>E.N-rdAt E wr)
 case atStart=>exact HR.out
 case round =>
  unfold xqRel at hrel;obtain⟨g,kx,gs,px,i,L1,rfl,hst,hok,hfl,hsp,hend⟩:=hrel;have HS:=Hd hst;have hiN:=hst.r.le;have HM0:Hid (E.N-rdAt E wr=E.N-i):=Hd (by rw[HS.out.rdAt]);clear hst HR HS1 hi1 HSL HL HFL HPE;have HSa:=Hd (((HS.out.lit [g] _ (by have:=GoodS.cons (HS.out.ok _ (.head _)) (GoodS.nil _ _ _);simpa using this) Ob).new (nodeC 0 (-1) j 0 (.slice (some ⟨wr.heap.size,0,none⟩) 1 1))).new (.cells #[ptrV (wr.heap.size+1)] 41));rw[show(wr.alloc (.cells (ptrsV [g]).toArray 41)).heap.size=wr.heap.size+1 by simp,show((wr.alloc (.cells (ptrsV [g]).toArray 41)).alloc (nodeC 0 (-1) j 0 (.slice (some ⟨wr.heap.size,0,none⟩) 1 1))).heap.size=wr.heap.size+1+1 by simp]at HSa;clear HS;have HOK:=Hd hok;have HFX:=Hd hfl;have HSP:=Hd hsp;have HEN:=Hd hend;clear hok hfl hsp hend;go_upto_region 4 with(fail);have HSb:Hid (St E (((wr.alloc (.cells #[ptrV g] 41)).alloc (nodeC 0 (-1) j 0 (.slice (some ⟨wr.heap.size,0,none⟩) 1 1))).alloc (.cells #[ptrV (wr.heap.size+1)] 41)) i (.raw (wr.heap.size+1+1) (.cells #[ptrV (wr.heap.size+1)] 41 (0,0))::.raw (wr.heap.size+1) (nodeC 0 (-1) j 0 (.slice (some ⟨wr.heap.size,0,none⟩) 1 1))::.row (.slice (some ⟨wr.heap.size,0,none⟩) 1 1) [g] px::.done g kx gs px::.raw rb (.cells #[ptrV E.gr] 44 (0,0))::I)):=Hd HSa.out;clear HSa;generalize((wr.alloc (.cells #[ptrV g] 41)).alloc (nodeC 0 (-1) j 0 (.slice (some ⟨wr.heap.size,0,none⟩) 1 1))).alloc (.cells #[ptrV (wr.heap.size+1)] 41)=wc at *;generalize wr.heap.size+1+1=nb at *;generalize wr.heap.size+1=n at *;generalize wr.heap.size=lb at *;have b_rb:=HSb.out.box t4;have b_nb:=HSb.out.box t0;go_wp2_with fail;refine mX HF HSb λw2 HS2=>?_;clear b_rb b_nb HSb;cases L1 with
  |nil =>
   have hn3:=HST.out;rw[<-HEN.out]at hn3;have h46:=hn3.ne [46];have h40:=hn3.ne [40];have h91:=hn3.ne [91];have h123:=hn3.ne [123];clear hn3;have b_rb:=HS2.out.box t4;have b_nb:=HS2.out.box t0;simp only[List.flatMap_nil,lN,Nat.add_zero]at h46 h40 h91 h123;go_wp2_with fail;exact HQ.out _ _ _ _ _ (by have:=HEN.out;simpa using this) (by have:=HFX.out;simp only[List.foldl_nil]at this;rw[<-this];exact HS2.out.tl.tl.tl.pop2)
  |cons s L2 =>
   have hs0:=HSP.out;rw[sufT,List.flatMap_cons]at hs0;obtain⟨s1,s2⟩:=Spell.app hs0;have HS2x:=Hd s2;have he0:=HEN.out;rw[sufT,List.flatMap_cons,lA]at he0;have HE2:=Hd he0;have hok:=HOK.out s (.head _);have HOK2:Hid (∀s∈L2,s.ok E):=Hd λx hx=>HOK.out x (.tail _ hx)
   have hf0:=HFX.out;rw[List.foldl_cons]at hf0;have HF2:=Hd hf0;have HSr:=Hd HS2.out.rot;have HREL:Hid (∀(w4:World) k4 s4 (i4:Nat),i4=i+s.toks.length->St E w4 i4 (.done n k4 s4 (s.flat px)::.raw rb (.cells #[ptrV E.gr] 44 (0,0))::I)->0<s.toks.length->xqRel E (.raw rb (.cells #[ptrV E.gr] 44 (0,0))::I) pe fl (ptrV n) w4/\E.N-rdAt E w4<E.N-rdAt E wr):=Hd λw4 k4 s4 i4 h1 h2 h3=>by
    refine⟨?_,by rw[HM0.out,h2.rdAt];have:=h2.r.le;omega⟩;unfold xqRel;have h:=HS2x.out;rw[<-h1]at h;exact⟨_,_,_,_,i4,L2,rfl,h2,HOK2.out,HF2.out,h,by have:=HE2.out;show i4+(L2.flatMap Suf.toks).length=pe;omega⟩
   clear hs0 s2 he0 hf0 HSP HEN HOK HFX HST HM0 HE2 HF2 HS2x HOK2;cases s with
   |sel x =>
    have hx3:=s1.1.sg.2.1;have HC:=Hd (yIv HF HSr rfl rfl hx3 s1.2.1);clear s1 hok;have b_rb:=HS2.out.box t4;have b_nb:=HS2.out.box t0;go_wp2_with fail;refine xmV HC.out λk4 s4 i4 w4 HS4 hi4=>?_;clear b_rb b_nb HS2 hx3 HSr HC;have HRM:=Hd (HREL.out w4 _ _ i4 hi4.out HS4.out.pop2.pop2 (by simp[Suf.toks]));have b_rb:=HS4.out.box t3;have b_nb:=HS4.out.box t1;clear HREL hi4;go_wp2_with fail;exact⟨HRM.out.1,HRM.out.2⟩
   |call r wd =>
    have hx5:=s1.1.sg.2.1;obtain⟨k1,k2,k3,k4⟩:=hok;have HC:=Hd (vJ (PXm.tightQ n) (FnV.clos (k:=179) Tryz.func179 Oa rfl #[ptrV rb,ptrV nb]) HSr.out (λW' h'=>yFj (Hd (yFi HF (Hd h') rfl rfl k1 k2 k3 k4 s1)) (h'.box t4) (h'.box t2)));clear s1 k1 k2 k3 k4;have b_rb:=HS2.out.box t4;have b_nb:=HS2.out.box t0;go_wp2_with fail;refine xmV HC.out λk4 s4 i4 w4 HS4 hi4=>?_;clear b_rb b_nb HS2 hx5 HSr HC;have HRM:=Hd (HREL.out w4 _ _ i4 (by rw[hi4.out];simp[Suf.toks];omega) HS4.out.pop2.pop2 (by simp[Suf.toks]));have b_rb:=HS4.out.box t3;have b_nb:=HS4.out.box t1;clear HREL hi4;go_wp2_with fail;exact⟨HRM.out.1,HRM.out.2⟩
   |index a r =>
    have hx7:=s1.1.sg.2.1;obtain⟨k1,k2⟩:=hok;have HC:=Hd (vJ (PXm.tightQ n) (FnV.clos (k:=181) Tryz.func181 Oa rfl #[ptrV rb,ptrV nb]) HSr.out (λW' h'=>zVa (Hd (yBo HF (Hd h') rfl rfl k1 k2 s1)) (h'.box t4) (h'.box t2)));clear s1 k1 k2;have b_rb:=HS2.out.box t4;have b_nb:=HS2.out.box t0;go_wp2_with fail;refine xmV HC.out λk4 s4 i4 w4 HS4 hi4=>?_;clear b_rb b_nb HS2 hx7 HSr HC;have HRM:=Hd (HREL.out w4 _ _ i4 (by rw[hi4.out];simp[Suf.toks];omega) HS4.out.pop2.pop2 (by simp[Suf.toks]));have b_rb:=HS4.out.box t3;have b_nb:=HS4.out.box t1;clear HREL hi4;go_wp2_with fail;exact⟨HRM.out.1,HRM.out.2⟩
   |slice b c d =>
    have hx7:=s1.1.sg.2.1;have HC:=Hd (vJ (PXm.tightQ n) (FnV.clos (k:=181) Tryz.func181 Oa rfl #[ptrV rb,ptrV nb]) HSr.out (λW' h'=>zVa (Hd (yBp HF (Hd h') rfl rfl hok s1)) (h'.box t4) (h'.box t2)));clear s1 hok;have b_rb:=HS2.out.box t4;have b_nb:=HS2.out.box t0;go_wp2_with fail;refine xmV HC.out λk4 s4 i4 w4 HS4 hi4=>?_;clear b_rb b_nb HS2 hx7 HSr HC;have HRM:=Hd (HREL.out w4 _ _ i4 (by rw[hi4.out];simp[Suf.toks];omega) HS4.out.pop2.pop2 (by simp[Suf.toks]));have b_rb:=HS4.out.box t3;have b_nb:=HS4.out.box t1;clear HREL hi4;go_wp2_with fail;exact⟨HRM.out.1,HRM.out.2⟩
end
abbrev BW:=ByteArray×ExT
abbrev opT(L:List BW):List XTk:=L.flatMap λp=>.sg p.1.toList::p.2.toks
def opF(ps:List Prt)(p:BW):List Prt:=(37,2,p.1)::(ps++p.2.flat)
def XB(E:SynE)(z:ExT)(l:Nat):Prop:=∀(W:World)(j:Nat)(I:List Item),Hid (St E W j I)->Spell E j z.toks->lvZ (wordZ E ((j+z.toks.length:Nat):Int)).toList<l->StopP E (j+z.toks.length)->Calls Tryz.prog 56 #[ptrV E.gr,.int .i64 (l:Int)] W (PX E I (j+z.toks.length) z.flat)
def XU(E:SynE)(z:ExT):Prop:=∀(W:World)(j:Nat)(I:List Item),Hid (St E W j I)->Spell E j z.toks->StopP E (j+z.toks.length)->Calls Tryz.prog 99 #[ptrV E.gr] W (PX E I (j+z.toks.length) z.flat)
def OpsE(E:SynE)(least:Nat):Nat->List BW->Prop
 |i,[]=>lvZ (wordZ E (i:Int)).toList<least
 |i,p::r=>TokIs E i (.sg p.1.toList)/\least<=lvZ p.1.toList/\(∀(W:World)(i':Nat)(I:List Item),i'=i+1->Hid (St E W i' I)->Calls Tryz.prog 56 #[ptrV E.gr,.int .i64 ((lvZ p.1.toList+1:Nat):Int)] W (PX E I (i+1+p.2.toks.length) p.2.flat))/\OpsE E least (i+1+p.2.toks.length) r
@[irreducible] def xoRel(E:SynE)(I:List Item)(least pe:Nat)(fl:List Prt)(xv:Value)(W:World):Prop:=∃g k gs px,∃i:Nat,∃L:List BW,xv=ptrV g/\St E W i (.done g k gs px::I)/\OpsE E least i L/\L.foldl opF px=fl/\i+(opT L).length=pe
section
variable {E:SynE} {W:World} {j n m:Nat} {I:List Item} {ps:List Prt} {v:Value} {Q Q':Ending->World->Prop} {f:FuncId} {args:Array Value}
theorem yIw{o:ExT}{L:List Suf}(HF:Hid (SynF E))(HS:Hid (St E W j I))(ho:OpE E o)(hL:∀s∈L,s.ok E)(hs:Spell E j (o.toks++sufT L))(hst:StopP E (j+(o.toks++sufT L).length)):Calls Tryz.prog 99 #[ptrV E.gr] W (PX E I (j+(o.toks++sufT L).length) (L.foldl (λp s=>s.flat p) o.flat)):=by
 refine xI HF HS λQ HQ hN hj=>?_;have hw:(wordZ E (j:Int)).toList=[]\/(wordZ E (j:Int)).toList=[40]:=by
  cases o with
  |name w=>exact Or.inl hs.1.nm.2.1
  |lit w=>exact Or.inl hs.1.lt.2.1
  |paren a=>exact Or.inr hs.1.sg.2.1
  |_=>exact ho.elim
 have HC:=Hd (λW I (HS:Hid (St E W j I))=>yHw HF HS ho hL hs hst);clear ho hL hs hst;rcases hw with hw|hw;all_goals
  go_enter Tryz.func99,Tryz.ntmps99;go_wp2_with fail;refine mP HS 36 λg1 w1 HS1=>?_;go_wp2_with fail;refine mX HF HS1 λw2 HS2=>?_;clear HS HS1;go_wp2_with fail;refine xV (HC.out _ _ HS2) λg26 k26 s26 i26 w26 HS26 hi26=>?_;clear HS2 hw;go_wp2_with fail;exact HQ.out _ _ _ _ _ hi26.out HS26.out.pop2.pop2
theorem yIx{a:ExT}(HF:Hid (SynF E))(HS:Hid (St E W j I))(ha:XU E a)(hs:Spell E j (ExT.star a).toks)(hst:StopP E (j+(ExT.star a).toks.length)):Calls Tryz.prog 99 #[ptrV E.gr] W (PX E I (j+(ExT.star a).toks.length) (ExT.star a).flat):=by
 refine xI HF HS λQ HQ hN hj=>?_;have hw21:=hs.1.sg.2.1;have hlt:=hs.1.sg.2.2.2;have HC:=Hd (λW i I (e:i=j+1) (HS:Hid (St E W i I))=>ha W i I HS (by rw[e];exact hs.2) (by have:=hst;rw[show j+(ExT.star a).toks.length=i+a.toks.length by simp[ExT.toks];omega]at this;exact this));clear ha hs hst;go_enter Tryz.func99,Tryz.ntmps99;go_wp2_with fail;refine mP HS 36 λg1 w1 HS1=>?_;go_wp2_with fail;refine mX HF HS1 λw2 HS2=>?_;clear HS HS1;obtain⟨c0,c1,c4,cz,cn,cn2⟩:=HS2.out.ncell t0;have HS22:=Hd (HS2.out.setK [] 35);obtain⟨hw,c3,z3,i23,HS23,hi23⟩:=mI HS2 HS22 hN;have HI23:Hid (i23=j+1):=Hd Z;clear hi23;go_wp2_with fail;refine xV (HC.out _ _ _ HI23.out HS23) λg24 k24 s24 i24 w24 HS24 hi24=>?_;clear c0 c1 c4 cz cn cn2 HS2 c3 z3 hw HS22 hw21 HS23;go_wp2_with fail;refine mC HF [_] HS24 (gs1 HS24) (λw25 HS25=>?_);go_wp2_with fail;have h2:=HS25.out.tl;rw[tz0 E 35 V]at h2;exact HQ.out _ _ _ _ i24 (by have:=HI23.out;have:=hi24.out;simp[ExT.toks];omega) (by simpa[ExT.flat]using h2)
theorem yIy{w:ByteArray}{a:ExT}(HF:Hid (SynF E))(HS:Hid (St E W j I))(ha:XU E a)(has:a.srt=1)(haw:a.wok)(hw:w.toList∈ExT.unW)(hs:Spell E j (ExT.un w a).toks)(hst:StopP E (j+(ExT.un w a).toks.length)):Calls Tryz.prog 99 #[ptrV E.gr] W (PX E I (j+(ExT.un w a).toks.length) (ExT.un w a).flat):=by
 refine xI HF HS λQ HQ hN hj=>?_;have hx:=hs.1.sg.2.1;have hlt:=hs.1.sg.2.2.2;have HT:=Hd (zNf (hs.1.sg.2.2.1 36 V));have HC:=Hd (λW i I (e:i=j+1) (HS:Hid (St E W i I))=>ha W i I HS (by rw[e];exact hs.2) (by have:=hst;rw[show j+(ExT.un w a).toks.length=i+a.toks.length by simp[ExT.toks];omega]at this;exact this));have hf:=xG has haw (r:=[]) (by rw[List.append_nil];exact hs.2);have hx5:((wordZ E ((j:Int)+1)).toList==[99,104,97,110])=false:=fT hf;clear ha hs hst hf;have fin:∀(W':World)(i4:Nat)(g1 g9 k9:Nat)(s9:List Nat)(i9:Nat),i4=j+1->i9=i4+a.toks.length->St E W' i9 (.done g1 36 ([]++[g9]) ((36,(([]++[g9]:List Nat).length:Int),textZ E 36 (j:Int))::([]++(a.flat++[])))::I)->Q (.returned (ptrV g1)) W':=λW' i4 g1 g9 k9 s9 i9 h1 h2 h3=>by
  rw[HT.out]at h3;exact HQ.out _ _ _ _ i9 (by simp[ExT.toks];omega) (by simpa[ExT.flat]using h3)
 have HFIN:=Hd fin;clear fin HQ;have hw':w.toList=[60,45]\/(w.toList=[43]\/w.toList=[45]\/w.toList=[33]\/w.toList=[94]\/w.toList=[38]):=by
  simp only[ExT.unW,List.mem_cons,List.mem_nil_iff,or_false]at hw;rcases hw with h|h|h|h|h|h<;>simp[h]
 clear hw;rcases hw' with h|hw'
 .rw[h]at hx;clear h;go_enter Tryz.func99,Tryz.ntmps99;go_wp2_with fail;refine mP HS 36 λg1 w1 HS1=>?_;go_wp2_with fail;refine mX HF HS1 λw2 HS2=>?_;have hw1:IntKind.i64.wrap ((j:Int)+1)=(j:Int)+1:=wi64 _ Z;have c3:=HS2.out.r.c3;have z3:=HS2.out.r.z 3;go_wp2_with fail;refine mQ (yX HF.out HS2.out.r ((j:Int)+1) Z) HS2 λw4 HS4=>?_;clear hw1 c3 z3 HS2 HS HS1;obtain⟨c0,c1,c4,cz,cn,cn2⟩:=HS4.out.ncell t0;have c3:=HS4.out.r.c3;have z3:=HS4.out.r.z 3;have HS7:=Hd (HS4.out.setW [] (j:Int));obtain⟨hw,-,-,i8,HS8,hi8⟩:=mI HS7 HS7 hN;have HI8:Hid (i8=j+1):=Hd Z;clear hi8;go_wp2_with fail;refine xV (HC.out _ _ _ HI8.out HS8) λg9 k9 s9 i9 w9 HS9 hi9=>?_;clear c0 c1 c4 cz cn cn2 c3 z3 HS4 hw HS7 hx hx5 HS8;go_wp2_with fail;refine mC HF [_] HS9 (gs1 HS9) (λw10 HS10=>?_);go_wp2_with fail;exact HFIN.out _ _ _ _ k9 s9 _ HI8.out hi9.out HS10.out.tl
 .rcases hw' with h|h|h|h|h;all_goals
   rw[h]at hx;clear h hx5;go_enter Tryz.func99,Tryz.ntmps99;go_wp2_with fail;refine mP HS 36 λg1 w1 HS1=>?_;go_wp2_with fail;refine mX HF HS1 λw2 HS2=>?_;clear HS HS1;obtain⟨c0,c1,c4,cz,cn,cn2⟩:=HS2.out.ncell t0;have c3:=HS2.out.r.c3;have z3:=HS2.out.r.z 3;have HS12:=Hd (HS2.out.setW [] (j:Int));obtain⟨hw,-,-,i13,HS13,hi13⟩:=mI HS12 HS12 hN;have HI8:Hid (i13=j+1):=Hd Z;clear hi13;go_wp2_with fail;refine xV (HC.out _ _ _ HI8.out HS13) λg14 k14 s14 i14 w14 HS14 hi14=>?_;clear c0 c1 c4 cz cn cn2 c3 z3 HS2 hw HS12 hx HS13;go_wp2_with fail;refine mC HF [_] HS14 (gs1 HS14) (λw15 HS15=>?_);go_wp2_with fail;exact HFIN.out _ _ _ _ k14 s14 _ HI8.out hi14.out HS15.out.tl
theorem yHx{least l0:Nat}{p0:List Prt}{L:List BW}(HF:Hid (SynF E))(HS:Hid (St E W j I))(hu:Calls Tryz.prog 99 #[ptrV E.gr] W (PX E I (j+l0) p0))(hL:OpsE E least (j+l0) L)(h1:1<=least)(h6:least<=6):Calls Tryz.prog 56 #[ptrV E.gr,.int .i64 (least:Int)] W (PX E I (j+l0+(opT L).length) (L.foldl opF p0)):=by
 obtain⟨pe,hpe⟩:∃pe,pe=j+l0+(opT L).length:=⟨_,rfl⟩;obtain⟨fl,hfl⟩:∃fl,fl=L.foldl opF p0:=⟨_,rfl⟩;rw[<-hpe,<-hfl];refine xI HF HS λQ HQ hN hj=>?_;have HPE:=Hd hpe;have HFL:=Hd hfl;have HLL:=Hd hL;have HU:=Hd hu;clear hpe hfl hL hu;go_enter Tryz.func56,Tryz.ntmps56;have c3:=HS.out.r.c3;have z3:=HS.out.r.z 3;go_wp2_with fail;refine xV HU.out λg1 k1 s1 i1 w1 HS1 hi1=>?_;clear c3 z3 HS HU;have HR:Hid (xoRel E I least pe fl (ptrV g1) w1):=Hd (by
  unfold xoRel;have h:=HLL.out;rw[<-hi1.out]at h;exact⟨_,_,_,_,i1,L,rfl,HS1.out,h,HFL.out.symm,by rw[HPE.out,hi1.out]⟩)
 go_wp2_with fail;go_loopw [6] (λxv wr=>xoRel E I least pe fl xv wr) (λ_ wr=>E.N-rdAt E wr)
 case atStart=>exact HR.out
 case round =>
  unfold xoRel at hrel;obtain⟨g,kx,gs,ps,i,L1,rfl,hst,hops,hfl,hend⟩:=hrel;have HS:=Hd hst;have hiN:=hst.r.le;have HM0:Hid (E.N-rdAt E wr=E.N-i):=Hd (by rw[HS.out.rdAt]);clear hst HR HS1 hi1 HLL HFL HPE;have HFX:=Hd hfl;have HEN:=Hd hend;clear hfl hend;go_wp2_with fail;refine mX HF HS λw2 HS2=>?_;go_wp2_with fail;refine(zKz _ _).mono ?_;rintro e w3 ⟨rfl,rfl⟩;cases L1 with
  |nil =>
   have hv:lvZ (wordZ E (i:Int)).toList<least:=hops;generalize lvZ (wordZ E i).toList=lv at *;have hlt2:(lv:Int)<(least:Int):=Z;go_wp2_with fail;exact HQ.out _ _ _ _ _ (by have:=HEN.out;simpa using this) (by have:=HFX.out;simp only[List.foldl_nil]at this;rw[<-this];exact HS2.out)
  |cons p L2 =>
   obtain⟨hp1,hp2,hp3,hp4⟩:=hops;have hx:=hp1.sg.2.1;have hlt:=hp1.sg.2.2.2;have HT:=Hd (zNf (hp1.sg.2.2.1 37 V));have hlv:=zIb p.1.toList;rw[hx];generalize lvZ p.1.toList=lv at *;have hlt2:¬(lv:Int)<(least:Int):=Z;have HP3:=Hd hp3;have HP4:=Hd hp4;clear hp1 hp2 hp3 hp4 hx;have hwl:IntKind.i64.wrap ((lv:Int)+1)=(lv:Int)+1:=wi64 _ Z;obtain⟨hw,c3,z3,i4,HS4,hi4⟩:=mI HS2 HS2 hN;have HI4:Hid (i4=i+1):=Hd Z;clear hi4;go_wp2_with fail;refine xV (HP3.out _ _ _ HI4.out HS4) λg5 k5 s5 i5 w5 HS5 hi5=>?_;clear hwl hlt2 c3 z3 hw HS2 HS4;have c3:=HS5.out.r.c3;have z3:=HS5.out.r.z 3;have h5N:=HS5.out.r.le;have HX:=Hd (St.close [] (((HS5.out.lit [g,g5] _ (.cons (HS5.out.ok _ (.tail _ (.head _))) (.cons (HS5.out.ok _ (.head _)) (.nil _ _ _))) Ob).new (nodeC 37 i j i5 (.slice (some ⟨w5.heap.size,0,none⟩) 2 2)))) ⟨Z,Z⟩ ⟨V,by simp[leastC]⟩);have HR:Hid (xoRel E I least pe fl (ptrV (w5.heap.size+1)) ((w5.alloc (.cells #[ptrV g,ptrV g5] 41)).alloc (nodeC 37 i j i5 (.slice (some ⟨w5.heap.size,0,none⟩) 2 2)))):=Hd (by
    unfold xoRel;have h:=HX.out.pop2.pop2;rw[HT.out]at h;have h4:=HP4.out;rw[<-hi5.out]at h4;refine⟨_,_,_,_,i5,L2,Ob,h,h4,by have:=HFX.out;simpa[opF]using this,by have:=HEN.out;have:=hi5.out;simp at *;omega⟩)
   have HM:Hid (E.N-rdAt E ((w5.alloc (.cells #[ptrV g,ptrV g5] 41)).alloc (nodeC 37 i j i5 (.slice (some ⟨w5.heap.size,0,none⟩) 2 2)))<E.N-rdAt E wr):=Hd (by rw[HM0.out];rw[show rdAt E ((w5.alloc (.cells #[ptrV g,ptrV g5] 41)).alloc (nodeC 37 i j i5 (.slice (some ⟨w5.heap.size,0,none⟩) 2 2)))=i5 from HX.out.rdAt];have:=hi5.out;omega);clear HX;go_wp2_with fail;exact⟨HR.out,HM.out⟩
theorem yFk{z:ExT}(HF:Hid (SynF E))(hz:XB E z 1):XE E z:=by
 intro W j I HS hs hst;have hl:lvZ (wordZ E ((j+z.toks.length:Nat):Int)).toList<1/\StopP E (j+z.toks.length):=by
  unfold StopE at hst;unfold StopP;generalize(wordZ E ((j+z.toks.length:Nat):Int)).toList=y at *;simp only[stopW,List.mem_cons,List.mem_nil_iff,or_false]at hst;rcases hst with rfl|rfl|rfl|rfl|rfl|rfl<;>exact⟨V,V⟩
 have HC:=Hd (hz W j I HS hs hl.1 hl.2);refine xI HF HS λQ HQ hN hj=>?_;clear hs hst hl hz;go_enter Tryz.func35,Tryz.ntmps35;go_wp2_with fail;refine xV HC.out λg1 k1 s1 i1 w1 HS1 hi1=>?_;go_wp2_with fail;exact HQ.out _ _ _ _ _ hi1.out HS1.out
end
theorem yBs{w:ByteArray}(h:∃i,i<5/\w.toList∈[wL1,wL2,wL3,wL4,wL5].getD i []):lvZ w.toList=lvW w/\1<=lvW w:=by
 obtain⟨i,hi,h⟩:=h;unfold lvW;generalize w.toList=y at *;have:i=0\/i=1\/i=2\/i=3\/i=4:=Z;rcases this with rfl|rfl|rfl|rfl|rfl<;>simp only[List.getD_cons_zero,List.getD_cons_succ,wL1,wL2,wL3,wL4,wL5,List.mem_cons,List.mem_nil_iff,or_false]at h
 .subst h;exact⟨V,V⟩
 .subst h;exact⟨V,V⟩
 .rcases h with rfl|rfl|rfl|rfl|rfl|rfl<;>exact⟨V,V⟩
 .rcases h with rfl|rfl|rfl|rfl<;>exact⟨V,V⟩
 .rcases h with rfl|rfl|rfl|rfl|rfl|rfl|rfl<;>exact⟨V,V⟩
namespace ExT
section
variable {E:SynE} {n:Nat}
theorem zSv(H:∀y:ExT,y.flat.length<n->y.srt=1->y.wok->y.gok->XE E y):∀r:ExT,r.srt=3->r.wok->r.gok->r.flat.length<n->AllE E r/\r.cnt<=r.flat.length
 |nil,_,_,_,_=>⟨trivial,by simp[cnt]⟩
 |cons a r,h,hw,hg,hl=>by
  have ha:a.srt=1/\r.srt=3:=by simp only[srt]at h;split at h<;>first|assumption|omega
  have hp:=len_pos (Or.inl ha.1);simp only[flat,lA]at hl;obtain⟨h1,h2⟩:=zSv H r ha.2 hw.2 hg.2 Z;exact⟨⟨ha.1,hw.1,H a Z ha.1 hw.1 hg.1,h1⟩,by simp only[cnt,flat,lA];omega⟩
 |none,h,_,_,_|name _,h,_,_,_|lit _,h,_,_,_=>by simp[srt]at h
 |paren _,h,_,_,_|sel _ _,h,_,_,_|index _ _,h,_,_,_|slice _ _ _ _,h,_,_,_|call _ _ _,h,_,_,_|star _,h,_,_,_|un _ _,h,_,_,_|bin _ _ _,h,_,_,_=>by simp only[srt]at h;split at h<;>omega
theorem suf_of(hn:n<=10000)(H:∀y:ExT,y.flat.length<n->y.srt=1->y.wok->y.gok->XE E y):∀z:ExT,z.srt=1->z.wok->z.gok->7<=z.lvl->z.flat.length<=n->∃o L,OpE E o/\(∀s∈L,Suf.ok E s)/\z.flat=L.foldl (λp s=>Suf.flat p s) o.flat/\z.toks=o.toks++sufT L
 |none,h,_,_,_,_|nil,h,_,_,_,_=>by simp[srt]at h
 |cons _ _,h,_,_,_,_=>by simp only[srt]at h;split at h<;>omega
 |star _,_,_,_,h,_|un _ _,_,_,_,h,_=>by simp[lvl]at h
 |bin w _ _,_,_,_,h,_=>by have:=lvW_le w;simp[lvl]at h;omega
 |name w,_,_,_,_,_=>⟨name w,[],trivial,λs hs=>(by cases hs),rfl,Ob⟩
 |lit w,_,_,_,_,_=>⟨lit w,[],trivial,λs hs=>(by cases hs),rfl,Ob⟩
 |paren a,h,hw,hg,_,hl=>by
  have ha:a.srt=1:=by simp only[srt]at h;split at h<;>first|assumption|omega
  exact⟨paren a,[],H a (by simp only[flat,lC]at hl;omega) ha hw hg,λs hs=>(by cases hs),rfl,Ob⟩
 |sel a w,h,hw,hg,_,hl=>by
  have ha:a.srt=1:=by simp only[srt]at h;split at h<;>first|assumption|omega
  obtain⟨o,L,h1,h2,h3,h4⟩:=suf_of hn H a ha hw hg.2 hg.1 (by simp only[flat,lC,lA]at hl;omega);refine⟨o,L++[.sel w],h1,λs hs=>?_,by rw[List.foldl_append,<-h3];rfl,by rw[sufT,List.flatMap_append,<-List.append_assoc,<-h4];simp[toks,Suf.toks]⟩;rcases List.mem_append.1 hs with hs|hs
  .exact h2 s hs
  .rw[List.mem_singleton]at hs;subst hs;trivial
 |index a r,h,hw,hg,_,hl=>by
  have ha:a.srt=1/\r.srt=3/\1<=r.cnt:=by simp only[srt]at h;split at h<;>first|assumption|omega
  simp only[flat,lC,lA]at hl;obtain⟨o,L,h1,h2,h3,h4⟩:=suf_of hn H a ha.1 hw.1 hg.2.1 hg.1 Z;have hal:=zSv H r ha.2.1 hw.2 hg.2.2 Z;cases r with
  |cons x r =>
   refine⟨o,L++[.index x r],h1,λs hs=>?_,by rw[List.foldl_append,<-h3];rfl,by rw[sufT,List.flatMap_append,<-List.append_assoc,<-h4];simp[toks,Suf.toks,restT,List.append_assoc]⟩;rcases List.mem_append.1 hs with hs|hs
   .exact h2 s hs
   .rw[List.mem_singleton]at hs;subst hs;exact⟨hal.1,by have:=hal.2;simp only[cnt,flat,lA]at *;omega⟩
  |_=>have:=ha.2.2;simp[cnt]at this
 |call a r w,h,hw,hg,_,hl=>by
  have ha:a.srt=1/\r.srt=3/\(w≠bE0->1<=r.cnt):=by simp only[srt]at h;split at h<;>first|assumption|omega
  simp only[flat,lC,lA]at hl;obtain⟨o,L,h1,h2,h3,h4⟩:=suf_of hn H a ha.1 hw.1 hg.2.1 hg.1 Z;have hal:=zSv H r ha.2.1 hw.2.1 hg.2.2 Z;refine⟨o,L++[.call r w],h1,λs hs=>?_,by rw[List.foldl_append,<-h3];rfl,by rw[sufT,List.flatMap_append,<-List.append_assoc,<-h4];simp[toks,Suf.toks,callT,dotT]⟩;rcases List.mem_append.1 hs with hs|hs
  .exact h2 s hs
  .rw[List.mem_singleton]at hs;subst hs;refine⟨hal.1,by have:=hal.2;omega,hw.2.2,λhnil=>?_⟩;by_cases hb:w=bE0
   .exact hb
   .have:=ha.2.2 hb;cases r<;>simp[isNil,cnt]at hnil this
 |slice a b c d,h,hw,hg,_,hl=>by
  have ha:a.srt=1/\(b.srt=1\/b.srt=2)/\(c.srt=1\/c.srt=2)/\(d.srt=1\/d.srt=2)/\(c.srt=2->d.srt=2):=by simp only[srt]at h;split at h<;>first|assumption|omega
  obtain⟨ha,hb,hc,hd,hcd⟩:=ha;simp only[flat,lC,lA]at hl;have p1:=len_pos (Or.inl ha);obtain⟨o,L,h1,h2,h3,h4⟩:=suf_of hn H a ha hw.1 hg.2.1 hg.1 Z;obtain⟨-,wb,wc,wd⟩:=hw;obtain⟨-,-,gb,gc,gd⟩:=hg;refine⟨o,L++[.slice b c d],h1,λs hs=>?_,by rw[List.foldl_append,<-h3];rfl,by rw[sufT,List.flatMap_append,<-List.append_assoc,<-h4];simp[toks,Suf.toks,sliceT]⟩;rcases List.mem_append.1 hs with hs|hs
  .exact h2 s hs
  .rw[List.mem_singleton]at hs;subst hs;refine⟨?_,?_⟩
   .rcases hb with hb|hb
    .exact Or.inr ⟨hb,wb,H b Z hb wb gb⟩
    .exact Or.inl hb
   .rcases hc with hc|hc
    .refine Or.inr ⟨hc,wc,H c Z hc wc gc,?_⟩;rcases hd with hd|hd
     .exact Or.inr ⟨hd,wd,H d Z hd wd gd⟩
     .exact Or.inl hd
    .exact Or.inl ⟨hc,hcd hc⟩
theorem ops_of:∀z:ExT,z.srt=1->z.wok->z.gok->∃(u:ExT) (L:List BW),6<=u.lvl/\u.srt=1/\u.wok/\u.gok/\z.flat=L.foldl opF u.flat/\z.toks=u.toks++opT L/\((L=[]/\u=z)\/(u.flat.length<z.flat.length/\z.lvl<=5))/\L.Pairwise (λp q=>lvZ q.1.toList<=lvZ p.1.toList)/\
  ∀p∈L,z.lvl<=lvZ p.1.toList/\p.2.srt=1/\p.2.wok/\p.2.gok/\lvZ p.1.toList+1<=p.2.lvl/\p.2.flat.length<z.flat.length
 |none,h,_,_|nil,h,_,_=>by simp[srt]at h
 |cons _ _,h,_,_=>by simp only[srt]at h;split at h<;>omega
 |star a,h,hw,hg=>⟨star a,[],by simp[lvl],h,hw,hg,rfl,Ob,Or.inl ⟨rfl,rfl⟩,.nil,λp hp=>by cases hp⟩
 |un w a,h,hw,hg=>⟨un w a,[],by simp[lvl],h,hw,hg,rfl,Ob,Or.inl ⟨rfl,rfl⟩,.nil,λp hp=>by cases hp⟩
 |name w,h,hw,hg=>⟨name w,[],by simp[lvl],h,hw,hg,rfl,Ob,Or.inl ⟨rfl,rfl⟩,.nil,λp hp=>by cases hp⟩
 |lit w,h,hw,hg=>⟨lit w,[],by simp[lvl],h,hw,hg,rfl,Ob,Or.inl ⟨rfl,rfl⟩,.nil,λp hp=>by cases hp⟩
 |paren a,h,hw,hg=>⟨paren a,[],by simp[lvl],h,hw,hg,rfl,Ob,Or.inl ⟨rfl,rfl⟩,.nil,λp hp=>by cases hp⟩
 |sel a w,h,hw,hg=>⟨sel a w,[],by simp[lvl],h,hw,hg,rfl,Ob,Or.inl ⟨rfl,rfl⟩,.nil,λp hp=>by cases hp⟩
 |index a r,h,hw,hg=>⟨index a r,[],by simp[lvl],h,hw,hg,rfl,Ob,Or.inl ⟨rfl,rfl⟩,.nil,λp hp=>by cases hp⟩
 |slice a b c d,h,hw,hg=>⟨slice a b c d,[],by simp[lvl],h,hw,hg,rfl,Ob,Or.inl ⟨rfl,rfl⟩,.nil,λp hp=>by cases hp⟩
 |call a r w,h,hw,hg=>⟨call a r w,[],by simp[lvl],h,hw,hg,rfl,Ob,Or.inl ⟨rfl,rfl⟩,.nil,λp hp=>by cases hp⟩
 |bin w a b,h,hw,hg=>by
  have ha:a.srt=1/\b.srt=1:=by simp only[srt]at h;split at h<;>first|assumption|omega
  obtain⟨u,L,h1,h2,h3,h4,h5,h6,h7,h8,h9⟩:=ops_of a ha.1 hw.1 hg.2.2.1;obtain⟨e1,e2⟩:=yBs hw.2.2;have hle:=lvW_le w;have hfl:(bin w a b).flat.length=a.flat.length+b.flat.length+1:=by simp[flat]
  have h7':u.flat.length<=a.flat.length:=by rcases h7 with⟨_,rfl⟩|h<;>omega
  have hlv:(bin w a b).lvl=lvW w:=rfl;have hL:∀p∈L,lvW w<=lvZ p.1.toList:=λp hp=>by have:=(h9 p hp).1;have:=hg.1;omega
  refine⟨u,L++[(w,b)],h1,h2,h3,h4,by rw[List.foldl_append,<-h5];rfl,by rw[opT,List.flatMap_append,<-List.append_assoc,<-h6];simp[toks],Or.inr ⟨Z,Z⟩,List.pairwise_append.2 ⟨h8,List.pairwise_singleton _ _,λp hp q hq=>?_⟩,λp hp=>?_⟩
  .rw[List.mem_singleton]at hq;subst hq;have:=hL p hp;simp only[];omega
  .rcases List.mem_append.1 hp with hp|hp
   .obtain⟨k1,k2,k3,k4,k5,k6⟩:=h9 p hp;exact⟨by have:=hL p hp;omega,k2,k3,k4,k5,Z⟩
   .rw[List.mem_singleton]at hp;subst hp;exact⟨by simp only[];omega,ha.2,hw.2.1,hg.2.2.2,by have:=hg.2.1;simp only[];omega,by simp only[];omega⟩
theorem ops_at{least:Nat}(h1:1<=least):∀(L:List BW)(i:Nat),Spell E i (opT L)->lvZ (wordZ E ((i+(opT L).length:Nat):Int)).toList<least->StopP E (i+(opT L).length)->L.Pairwise (λp q=>lvZ q.1.toList<=lvZ p.1.toList)->(∀p∈L,least<=lvZ p.1.toList/\XB E p.2 (lvZ p.1.toList+1))->OpsE E least i L
 |[],i,_,h,_,_,_=>by simpa[OpsE]using h
 |p::r,i,hs,he,hst,hp,ha=>by
  rw[opT,List.flatMap_cons]at hs;obtain⟨s1,s2⟩:=Spell.app hs;obtain⟨s0,s1⟩:=s1;have hle:i+(opT (p::r)).length=i+1+p.2.toks.length+(opT r).length:=by simp[opT];omega
  rw[hle]at he hst;rw[show i+(XTk.sg p.1.toList::p.2.toks).length=i+1+p.2.toks.length by simp;omega]at s2;have hpr:=List.pairwise_cons.1 hp;obtain⟨ap,bp⟩:=ha p (.head _);refine⟨s0,ap,λW i' I e HS=>?_,ops_at h1 r _ s2 he hst hpr.2 λq hq=>ha q (.tail _ hq)⟩;have hend:lvZ (wordZ E ((i+1+p.2.toks.length:Nat):Int)).toList<lvZ p.1.toList+1/\StopP E (i+1+p.2.toks.length):=by
   cases r with
   |nil =>
    simp only[opT,List.flatMap_nil,lN,Nat.add_zero]at he hst;exact⟨Z,hst⟩
   |cons q r =>
    have hq:=hpr.1 q (.head _);have aq:=(ha q (.tail _ (.head _))).1;have hw:=s2.1.sg.2.1;unfold StopP;rw[hw];refine⟨Z,λhm=>?_⟩;have h0:lvZ q.1.toList=0:=by
     simp only[sufW,List.mem_cons,List.mem_nil_iff,or_false]at hm;rcases hm with hm|hm|hm|hm<;>rw[hm]<;>decide
    omega
  subst e;exact bp W (i+1) I HS s1 hend.1 hend.2
end
end ExT
structure XA(E:SynE)(z:ExT):Prop where
 u:6<=z.lvl->XU E z
 b:∀l,1<=l->l<=z.lvl->l<=6->XB E z l
 e:XE E z
theorem yGq{E:SynE}(HF:Hid (SynF E)):∀n,n<=10000->∀z:ExT,z.flat.length<=n->z.srt=1->z.wok->z.gok->XA E z
 |0,_,z,hl,h1,_,_=>by have:=ExT.len_pos (Or.inl h1);omega
 |n+1,hn,z,hl,h1,hw,hg=>by
  have IH:=yGq HF n Z;have H:∀y:ExT,y.flat.length<n+1->y.srt=1->y.wok->y.gok->XE E y:=λy hy a b c=>(IH y Z a b c).e
  have U:6<=z.lvl->XU E z:=λhlv W j I HS hs hst=>by
   by_cases h7:7<=z.lvl
   .obtain⟨o,L,k1,k2,k3,k4⟩:=ExT.suf_of hn H z h1 hw hg h7 hl;rw[k4]at hs hst ⊢;rw[k3];exact yIw HF HS k1 k2 hs hst
   .cases z with
    |star a =>
     have ha:a.srt=1:=by simp only[ExT.srt]at h1;split at h1<;>first|assumption|omega
     exact yIx HF HS ((IH a (by simp only[ExT.flat,lC]at hl;omega) ha hw hg.2).u hg.1) hs hst
    |un w a =>
     have ha:a.srt=1:=by simp only[ExT.srt]at h1;split at h1<;>first|assumption|omega
     exact yIy HF HS ((IH a (by simp only[ExT.flat,lC]at hl;omega) ha hw.1 hg.2).u hg.1) ha hw.1 hw.2 hs hst
    |bin w a b=>have:=ExT.lvW_le w;simp[ExT.lvl]at hlv;omega
    |_=>simp[ExT.lvl]at h7
  have B:∀l,1<=l->l<=z.lvl->l<=6->XB E z l:=λl l1 l2 l3 W j I HS hs he hst=>by
   obtain⟨u,L,k1,k2,k3,k4,k5,k6,k7,k8,k9⟩:=ExT.ops_of z h1 hw hg;rw[k6]at hs;obtain⟨s1,s2⟩:=Spell.app hs;have hle:j+z.toks.length=j+u.toks.length+(opT L).length:=by rw[k6,lA];omega
   rw[hle]at he hst ⊢;have hops:=ExT.ops_at (E:=E) l1 L _ s2 he hst k8 λp hp=>by
    obtain⟨a1,a2,a3,a4,a5,a6⟩:=k9 p hp;exact⟨Z,(IH p.2 Z a2 a3 a4).b _ Z a5 (by have:=zIb p.1.toList;omega)⟩
   have hst0:StopP E (j+u.toks.length):=by
    cases L with
    |nil=>simpa using hst
    |cons p r =>
     have hw0:=s2.1.sg.2.1;have ap:=(k9 p (.head _)).1;unfold StopP;rw[hw0];intro hm;have h0:lvZ p.1.toList=0:=by
      simp only[sufW,List.mem_cons,List.mem_nil_iff,or_false]at hm;rcases hm with hm|hm|hm|hm<;>rw[hm]<;>decide
     omega
   have hu:XU E u:=by
    rcases k7 with⟨_,rfl⟩|⟨k7,_⟩
    .exact U k1
    .exact(IH u Z k2 k3 k4).u k1
   rw[k5];exact yHx HF HS (hu W j I HS s1 hst0) hops l1 l3
  have hlv:1<=z.lvl:=by
   cases z<;>first|(simp[ExT.lvl];done)|skip
   rename_i w a b;exact(yBs hw.2.2).2
  exact⟨U,B,yFk HF (B 1 Z hlv Z)⟩
end Go.Proofs.YtfpjdpdmgceciaaGreatDoor
