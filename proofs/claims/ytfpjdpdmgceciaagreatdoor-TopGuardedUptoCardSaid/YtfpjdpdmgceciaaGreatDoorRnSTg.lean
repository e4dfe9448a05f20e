/- Layer 14: what a writer holds as a string; a part's text by itself. -/
import Derived.Test.YtfpjdpdmgceciaaGreatDoorRnKTg
import Derived.Lib.UnsafeStr
import Derived.Test.YtfpjdpdmgceciaaGreatDoorCoreTg
namespace Go.Proofs.YtfpjdpdmgceciaaGreatDoor
set_option maxRecDepth 100000
set_option maxHeartbeats 32000000
set_option linter.all false
attribute [local irreducible] Calls
attribute [local irreducible] wpStill
open Go.RowKit
theorem zXw:Tryz.prog.cellsOf 5=1:=Oa
section
variable {E:WrE} {g:Nat} {out:List UInt8} {W W':World} {v:Value} {ks:List Nat}
theorem yHz(h:Wt E g out W):Calls Tryz.prog 50 #[wpV g] W λe W'=>e=.returned (.int .i64 (out.length:Int))/\W'=W:=by
 obtain⟨av,bv,-,h⟩:=h;obtain⟨va,vc,rfl⟩:∃va vc,bv=.slice va out.length vc:=by
  rcases h.own.2 with⟨hv,h0⟩|⟨b,cap,cur,hv,_⟩
  .exact⟨none,0,by rw[hv,h0]⟩
  .exact⟨_,_,hv⟩
 obtain⟨-,c1,-,-,-,-⟩:=zAq h.hb;clear h;go_enter Tryz.func50,Tryz.ntmps50;go_wp2_with fail;go_ret;exact⟨rfl,rfl⟩
@[irreducible] def StP(t:List UInt8)(B:Nat)(w:World)(e:Ending)(W':World):Prop:=e=.returned (.string ⟨t.toArray⟩)/\Below B w W'
theorem zLo(h:Wt E g out W):Calls Tryz.prog 51 #[wpV g] W (StP out g W):=by
 obtain⟨av,bv,-,h⟩:=h;by_cases h0:out=[]
 .obtain rfl:=h.nz h0;subst h0;have hUS:∀W' q,(Builtin.unsafeString_ #[126,3] 9 #[.pointer q,.int .i64 0]).run Tryz.prog W'=.ok (.string .empty) W':=λW' q=>Lib.run_unsafeString_none W' _ _ _ q;have c1:W.drew.cell? ⟨g,1,none⟩=some (.slice none 0 0):=(zAq (W:=W.drew) h.hb).2.1;have hSD:(Builtin.unsafeSliceData_ #[92] 126 #[.slice none 0 0]).run Tryz.prog W.drew=.ok (.pointer none) W.drew:=rfl;have HQ:Hid (StP [] g W (.returned (.string ⟨#[]⟩)) W.drew):=Hd (by unfold StP;exact⟨rfl,(bR g W).drew⟩);generalize StP [] g W=Q at *;clear h;go_enter Tryz.func51,Tryz.ntmps51;go_wp2_with fail;go_region;all_goals
   go_wp2_with fail;exact HQ.out
 .have hl0:out.length≠0:=by simpa using h0
  obtain⟨b,cap,cur,rfl,hbg,hb,hnc,hcm,hcs,htake⟩:∃b cap cur,bv=.slice (some ⟨b,0,none⟩) out.length cap/\g+1<=b/\W.heap[b]?=some (.cells cur 5 (0,0))/\out.length<=cap/\cap<=maxLen/\cur.size=cap*1/\cur.toList.take (out.length*1)=Lib.byteCells out:=by
   rcases h.own.2 with⟨_,hz⟩|⟨b,cap,cur,hv,r⟩
   .exact absurd hz hl0
   .exact⟨b,cap,cur,hv,r⟩
  have c1:W.drew.cell? ⟨g,1,none⟩=some (.slice (some ⟨b,0,none⟩) out.length cap):=(zAq (W:=W.drew) h.hb).2.1;have hSD:(Builtin.unsafeSliceData_ #[92] 126 #[.slice (some ⟨b,0,none⟩) out.length cap]).run Tryz.prog W.drew=.ok (.pointer (some ⟨b,0,none⟩)) W.drew:=Lib.run_unsafeSliceData_row _ _ _ _ _ _ Z;have hUS:(Builtin.unsafeString_ #[126,3] 9 #[.pointer (some ⟨b,0,none⟩),.int .i64 out.length]).run Tryz.prog W.drew=.ok (.string ⟨out.toArray⟩) (W.drew.freeze ⟨b,0,none⟩ out.length):=by
   refine Lib.run_unsafeString_row W.drew 126 3 9 5 Tryz.underlying126 zXw b cur.size (by have hg':W.drew.heap[b]?=some (.cells cur 5 (0,0)):=hb;simp[World.shape?,hg']) out h0 Z (by unfold maxLen at hcm;omega) ?_;intro j x hx;exact h.own.cells (g:=b) rfl j (.int .u8 x.toNat) (by simp[Lib.byteCells,hx])
  have HQ:Hid (StP out g W (.returned (.string ⟨out.toArray⟩)) (W.drew.freeze ⟨b,0,none⟩ out.length)):=Hd (by unfold StP;exact⟨rfl,Lib.below_freeze (Below.drew (bR g W)) (p:=⟨b,0,none⟩) (by show g<=b;omega) _⟩);generalize StP out g W=Q at *;clear h htake;go_enter Tryz.func51,Tryz.ntmps51;go_wp2_with fail;go_region;all_goals
   go_wp2_with fail;exact HQ.out
theorem yFu{i:Nat}{t:List UInt8}(h:Wt E g out W)(hp:PO E i t)(ht:t.length<=1000000000):Calls Tryz.prog 139 #[wpV g,.int .i64 (i:Int)] W (StP t W.heap.size W):=by
 have HQ:Hid (∀W',Below W.heap.size W W'->StP t W.heap.size W (.returned (.string ⟨t.toArray⟩)) W'):=Hd λW' h=>by unfold StP;exact⟨rfl,h⟩
 generalize StP t W.heap.size W=Q at *;obtain⟨c2,c3,c4⟩:=h.cells;have HN:Hid (Wt E W.heap.size [] (W.alloc (wrC E (.pointer none) (.slice none 0 0))).drew):=Hd (by
  obtain⟨_,_,_,hA⟩:=h;refine⟨_,_,Or.inl rfl,⟨((hA.b0.alloc hA.b0.size _).drew),hA.b0.size,heap_alloc_new _ _,?_,World.ownsRow_nil _ _ _ _,λ_=>rfl⟩⟩;exact(Below.heap_alloc _ _ _ (yH hA.he)).trans hA.he)
 have HC:=Hd (hp _ _ _ HN (by simpa using ht));have HB0:Hid (Below W.heap.size W (W.alloc (wrC E (.pointer none) (.slice none 0 0))).drew):=Hd (((bR _ _).alloc (nR _) _).drew);clear h hp;go_enter Tryz.func139,Tryz.ntmps139;go_wp2_with fail;go_region;generalize(W.alloc (wrC E (.pointer none) (.slice none 0 0))).drew=w1 at *;go_wp2_with fail;refine HC.out.mono ?_;intro e w2 h2;obtain⟨rfl,HW2,HK2⟩:=h2.go;have HS:=Hd (by have:=zLo HW2.out;rw[List.nil_append]at this;exact this);have HB2:=Hd (HB0.out.trans HK2.out.2);clear h2 HC HN;go_wp2_with fail;refine HS.out.mono ?_;intro e w3 h3;unfold StP at h3;obtain⟨rfl,h3⟩:=h3;have HX:=Hd (HQ.out _ (HB2.out.trans h3));clear h3 HS;go_wp2_with fail;exact HX.out
end
def POs(E:WrE):List Nat->List (List UInt8)->Prop
 |[],[]=>True
 |k::ks,t::ts=>PO E k t/\POs E ks ts
 |_,_=>False
theorem POs.len{E:WrE}:∀{ks:List Nat}{ts:List (List UInt8)},POs E ks ts->ts.length=ks.length
 |[],[],_=>rfl
 |_::_,_::_,h=>by simp[POs.len h.2]
theorem POs.at'{E:WrE}:∀{ks:List Nat}{ts:List (List UInt8)},POs E ks ts->∀(n:Nat)(h:n<ks.length)(h':n<ts.length),PO E ks[n] ts[n]
 |_::_,_::_,h,0,_,_=>h.1
 |_::_,_::_,h,n+1,a,b=>POs.at' h.2 n (by simpa using a) (by simpa using b)
def mixT:List ByteArray->List (List UInt8)->List UInt8
 |[],_=>[]
 |s::r,[]=>s.data.toList++mixT r []
 |s::r,t::ts=>s.data.toList++(t++mixT r ts)
def allT(m:List UInt8):List (List UInt8)->List UInt8
 |[]=>[]
 |[t]=>t
 |t::r=>t++(m++allT m r)
@[irreducible] def wrRel(E:WrE)(g b:Nat)(ss:List ByteArray)(kv:Value)(ks:List Nat)(ts:List (List UInt8))(fin:List UInt8)(w:World)(iv:Value)(W:World):Prop:=∃k:Nat,∃o,iv=.int .i64 k/\k<=ss.length/\Wt E g o W/\KpW g w W/\o++mixT (ss.drop k) (ts.drop k)=fin/\W.heap[b]?=some (stO ss)/\KdV W kv ks
@[irreducible] def alRel(E:WrE)(g:Nat)(m:List UInt8)(kv:Value)(ks:List Nat)(ts:List (List UInt8))(fin:List UInt8)(w:World)(iv:Value)(W:World):Prop:=∃k:Nat,∃o,iv=.int .i64 k/\k<=ks.length/\Wt E g o W/\KpW g w W/\o++(if 0<k/\k<ts.length then m else[])++allT m (ts.drop k)=fin/\KdV W kv ks
section
variable {E:WrE} {g:Nat} {out:List UInt8} {W W':World} {kv:Value} {ks:List Nat} {ts:List (List UInt8)}
theorem kW(h:Wt E g out W)(ss:List ByteArray)(hn:ss.length<=1000)(hs:(out++cat ss).length<=1000000000){b:Nat}(hb:b=W.heap.size:=by(try simp);try rfl):Calls Tryz.prog 82 #[wpV g,.slice (some ⟨b,0,none⟩) ss.length ss.length] (W.alloc (stO ss)) (WP E g (out++cat ss) W (.tuple #[])) :=
 hb▸(yIa (h.ext ((bR _ _).alloc (nR _) _)) (heap_alloc_new _ _) hn hs).mono λe W' h'=>by
  obtain⟨rfl,a,b⟩:=h'.go;exact WP.mk a.out ((KpW.new h.lt _).trans b.out)
theorem yFt{b:Nat}{ss:List ByteArray}(h:Wt E g out W)(hb:W.heap[b]?=some (stO ss))(hk:KdV W kv ks)(hp:POs E ks ts)(hl:ss.length=ks.length+1)(hn:ss.length<=1000)(hs:(out++mixT ss ts).length<=1000000000):Calls Tryz.prog 133 #[wpV g,kv,.slice (some ⟨b,0,none⟩) ss.length ss.length] W (WP E g (out++mixT ss ts) W (.tuple #[])):=by
 have HQ:Hid (∀W',Wt E g (out++mixT ss ts) W'->KpW g W W'->WP E g (out++mixT ss ts) W (.tuple #[]) (.returned (.tuple #[])) W'):=Hd λW' a b=>WP.mk a b;generalize WP E g (out++mixT ss ts) W (.tuple #[])=Q at *;generalize hfin:out++mixT ss ts=fin at *;have HR:Hid (wrRel E g b ss kv ks ts fin W (.int .i64 0) W):=Hd (by unfold wrRel;exact⟨0,out,rfl,Nat.zero_le _,h,KpW.refl _ _,hfin,hb,hk⟩);obtain⟨ka,kc,rfl,hkc,-⟩:=hk.at';have HLT:=Hd hp.len;have HL:=Hd hl;have HP:=Hd hp.at';clear h hb hfin hk hp hl;go_enter Tryz.func133,Tryz.ntmps133;go_wp2_with fail;go_loopw [10] (λiv wr=>wrRel E g b ss (.slice ka ks.length kc) ks ts fin W iv wr) (λiv _=>ss.length-(intOf iv).toNat)
 case atStart=>exact HR.out
 case round =>
  unfold wrRel at hrel;obtain⟨k,o,rfl,hk,hw,hkp,hf,hbk,hkd⟩:=hrel;have HW:=Hd hw;have HK:=Hd hkp;have HF:=Hd hf;have HB:=Hd hbk;have HD:=Hd hkd;clear hw hkp hf hbk hkd HR;by_cases hlt:k<ss.length
  .have hltI:(k:Int)<ss.length:=Z;have h0:(0:Int)<=k:=Z;have hc:wr.cell? ⟨b,k,none⟩=some (.string ss[k]):=by simp[World.cell?,HB.out,hlt]
   have hwk:IntKind.i64.wrap ((k:Int)+1)=(k:Int)+1:=wI Z;have hwl:IntKind.i64.wrap ((ss.length:Int)-1)=(ks.length:Int):=by have:=HL.out;rw[IntKind.wrap_i64];omega
   have hd:ss.drop k=ss[k]::ss.drop (k+1):=by rw[List.drop_eq_getElem_cons hlt]
   by_cases hkk:k<ks.length
   .have hkI:(k:Int)<ks.length:=Z;have hdt:ts.drop k=ts[k]'(by have:=HLT.out;omega)::ts.drop (k+1):=by rw[List.drop_eq_getElem_cons (by have:=HLT.out;omega)]
    have hf2:(o++ss[k].data.toList)++ts[k]'(by have:=HLT.out;omega)++mixT (ss.drop (k+1)) (ts.drop (k+1))=fin:=by rw[<-HF.out,hd,hdt];simp[mixT]
    have HP1:=Hd (HP.out k hkk (by have:=HLT.out;omega));have HF2:=Hd hf2;have hlen:(o++ss[k].data.toList).length+(ts[k]'(by have:=HLT.out;omega)).length<=1000000000:=by
     have:=congrArg List.length hf2;rw[lA,lA]at this;omega
    generalize ss[k]=x at *;generalize ts[k]'(by have:=HLT.out;omega)=t at *;have C1:=Hd (kW HW.out [x] Ob (by simp only[cat,List.flatMap_cons,List.flatMap_nil,List.append_nil];omega));clear hd hdt hf2;go_wp2_with fail;refine C1.out.mono ?_;intro e w2 h2;obtain⟨rfl,HW2,HK2⟩:=h2.go;simp only[cat,List.flatMap_cons,List.flatMap_nil,List.append_nil]at HW2;have HD2:=Hd (HD.out.keep HW.out HK2.out);have HB2:=Hd (show w2.heap[b]?=some (stO ss)by obtain⟨_,_,_,hA⟩:=HW.out;exact zEc HB.out hA.hb HK2.out);obtain⟨ka',kc',e',-,hkat⟩:=HD2.out.at';cases e'
    obtain⟨kb,rfl,hkc2⟩:=hkat k hkk;have C2:=Hd (HP1.out g _ w2 HW2 (by rw[lA];omega));have hkcI:(k:Int)<kc:=Z;clear h2 hkat C1;generalize ks[k]=y at *;go_wp2_with fail;refine C2.out.mono ?_;intro e w3 h3;obtain⟨rfl,HW3,HK3⟩:=h3.go;have HR2:Hid (wrRel E g b ss (.slice (some ⟨kb,0,none⟩) ks.length kc) ks ts fin W (.int .i64 ((k:Int)+1)) w3):=Hd (by
     unfold wrRel;obtain⟨_,_,_,hA⟩:=HW2.out;exact⟨k+1,_,congrArg (Value.int .i64) Z,hlt,HW3.out,(HK.out.trans HK2.out).trans HK3.out,HF2.out,zEc HB2.out hA.hb HK3.out,HD2.out.keep HW2.out HK3.out⟩)
    clear h3 C2;go_wp2_with fail;exact⟨HR2.out,by simp only[intOf];omega⟩
   .have hkI:¬(k:Int)<ks.length:=Z;have hdt:ts.drop k=[]:=List.drop_eq_nil_of_le (by have:=HLT.out;omega);have hds:ss.drop (k+1)=[]:=List.drop_eq_nil_of_le (by have:=HL.out;omega);have hf2:o++ss[k].data.toList=fin:=by rw[<-HF.out,hd,hdt,hds];simp[mixT]
    have HF2:=Hd hf2;have hlen:(o++ss[k].data.toList).length<=1000000000:=by rw[hf2];exact hs
    generalize ss[k]=x at *;have C1:=Hd (kW HW.out [x] Ob (by simp only[cat,List.flatMap_cons,List.flatMap_nil,List.append_nil];omega));have HDT:=Hd (And.intro hds (show ts.drop (k+1)=[]from List.drop_eq_nil_of_le (by have:=HLT.out;omega)));clear hd hdt hf2 hds;go_wp2_with fail;refine C1.out.mono ?_;intro e w2 h2;obtain⟨rfl,HW2,HK2⟩:=h2.go;simp only[cat,List.flatMap_cons,List.flatMap_nil,List.append_nil]at HW2;have HR2:Hid (wrRel E g b ss (.slice ka ks.length kc) ks ts fin W (.int .i64 ((k:Int)+1)) w2):=Hd (by
     unfold wrRel;obtain⟨_,_,_,hA⟩:=HW.out;exact⟨k+1,_,congrArg (Value.int .i64) Z,hlt,HW2.out,HK.out.trans HK2.out,by rw[HDT.out.1,HDT.out.2,HF2.out];simp[mixT],zEc HB.out hA.hb HK2.out,HD.out.keep HW.out HK2.out⟩)
    clear h2 C1;go_wp2_with fail;exact⟨HR2.out,by simp only[intOf];omega⟩
  .have hltI:¬(k:Int)<ss.length:=Z;have hz:ss.drop k=[]:=List.drop_eq_nil_of_le Z;go_wp2_with fail;refine bodyPost_end (results_none rfl _ _ _) rfl (HQ.out _ ?_ HK.out);have:=HF.out;rw[hz]at this;simp only[mixT,List.append_nil]at this;rw[<-this];exact HW.out
theorem zQq(m:List UInt8)(t:List UInt8)(r:List (List UInt8)):allT m (t::r)=t++(if r=[]then[]else m++allT m r):=by
 cases r<;>simp[allT]
theorem yHy{m:ByteArray}(h:Wt E g out W)(hk:KdV W kv ks)(hp:POs E ks ts)(hn:ks.length<=1000000)(hs:(out++allT m.data.toList ts).length<=1000000000):Calls Tryz.prog 137 #[wpV g,kv,.string m] W (WP E g (out++allT m.data.toList ts) W (.tuple #[])):=by
 have HQ:Hid (∀W',Wt E g (out++allT m.data.toList ts) W'->KpW g W W'->WP E g (out++allT m.data.toList ts) W (.tuple #[]) (.returned (.tuple #[])) W'):=Hd λW' a b=>WP.mk a b;generalize WP E g (out++allT m.data.toList ts) W (.tuple #[])=Q at *;generalize hfin:out++allT m.data.toList ts=fin at *;have HR:Hid (alRel E g m.data.toList kv ks ts fin W (.int .i64 0) W):=Hd (by unfold alRel;exact⟨0,out,rfl,Nat.zero_le _,h,KpW.refl _ _,by rw[iN Z,List.append_nil];exact hfin,hk⟩);obtain⟨ka,kc,rfl,hkc,-⟩:=hk.at';have HLT:=Hd hp.len;have HP:=Hd hp.at';clear h hfin hk hp;go_enter Tryz.func137,Tryz.ntmps137;go_wp2_with fail;go_loopw [10] (λiv wr=>alRel E g m.data.toList (.slice ka ks.length kc) ks ts fin W iv wr) (λiv _=>ks.length-(intOf iv).toNat)
 case atStart=>exact HR.out
 case round =>
  unfold alRel at hrel;obtain⟨k,o,rfl,hk,hw,hkp,hf,hkd⟩:=hrel;have HW:=Hd hw;have HK:=Hd hkp;have HF:=Hd hf;have HD:=Hd hkd;clear hw hkp hf hkd HR;by_cases hlt:k<ks.length
  .have hltI:(k:Int)<ks.length:=Z;have h0:(0:Int)<=k:=Z;obtain⟨ka',kc',e',-,hkat⟩:=HD.out.at';cases e'
   obtain⟨kb,rfl,hkc2⟩:=hkat k hlt;have hkcI:(k:Int)<kc:=Z;have hwk:IntKind.i64.wrap ((k:Int)+1)=(k:Int)+1:=wI Z;have hkt:k<ts.length:=by have:=HLT.out;omega
   have hdt:ts.drop k=ts[k]::ts.drop (k+1):=by rw[List.drop_eq_getElem_cons hkt]
   have HP1:=Hd (HP.out k hlt hkt);have hf2:(o++(if 0<k then m.data.toList else[]))++ts[k]++((if 0<k+1/\k+1<ts.length then m.data.toList else[])++allT m.data.toList (ts.drop (k+1)))=fin:=by
    have e1:(if 0<k/\k<ts.length then m.data.toList else[])=(if 0<k then m.data.toList else[]):=by
     by_cases c:0<k
     .rw[iP ⟨c,hkt⟩,iP c]
     .rw[iN (λh=>c h.1),iN c]
    have e2:(if ts.drop (k+1)=[]then[]else m.data.toList++allT m.data.toList (ts.drop (k+1)))=(if 0<k+1/\k+1<ts.length then m.data.toList else[])++allT m.data.toList (ts.drop (k+1)):=by
     by_cases c:k+1<ts.length
     .rw[iN (λh=>by rw[List.drop_eq_nil_iff]at h;omega),iP (And.intro (Nat.succ_pos k) c)]
     .have hz:ts.drop (k+1)=[]:=List.drop_eq_nil_of_le Z;rw[iP hz,iN (λh=>c h.2),hz];rfl
    rw[<-HF.out,hdt,zQq,e1,e2];simp only[List.append_assoc]
   have HF2:=Hd hf2;have hlen:(o++(if 0<k then m.data.toList else[])).length+ts[k].length<=1000000000:=by
    have:=congrArg List.length hf2;rw[lA,lA]at this;omega
   have HLE:=Hd hlen;have fin2:∀w2 w3,Wt E g (o++(if 0<k then m.data.toList else[])) w2->KpW g W w2->KdV w2 (.slice (some ⟨kb,0,none⟩) ks.length kc) ks->Wt E g ((o++(if 0<k then m.data.toList else[]))++ts[k]) w3->KpW g w2 w3->alRel E g m.data.toList (.slice (some ⟨kb,0,none⟩) ks.length kc) ks ts fin W (.int .i64 ((k:Int)+1)) w3:=λw2 w3 a1 a2 a3 a4 a5=>by
    unfold alRel;exact⟨k+1,_,congrArg (Value.int .i64) Z,hlt,a4,a2.trans a5,by rw[<-HF2.out];simp only[List.append_assoc],a3.keep a1 a5⟩
   have HFIN:=Hd fin2;clear hdt hf2 hkat hlen fin2;generalize ts[k]=t at *;generalize ks[k]=y at *;by_cases hk0:0<k
   .have hk0I:(0:Int)<k:=Z;rw[iP hk0]at HFIN HLE;have hlm:(o++m.data.toList).length<=1000000000:=by have:=HLE.out;omega
    have C1:=Hd (kW HW.out [m] Ob (by simp only[cat,List.flatMap_cons,List.flatMap_nil,List.append_nil];omega));clear hk0 hlm;go_wp2_with fail;refine C1.out.mono ?_;intro e w2 h2;obtain⟨rfl,HW2,HK2⟩:=h2.go;simp only[cat,List.flatMap_cons,List.flatMap_nil,List.append_nil]at HW2;have HD2:=Hd (HD.out.keep HW.out HK2.out);have C2:=Hd (HP1.out g _ w2 HW2 (by rw[lA];exact HLE.out));clear h2 C1 hkc2;go_wp2_with fail;refine C2.out.mono ?_;intro e w3 h3;obtain⟨rfl,HW3,HK3⟩:=h3.go;have HR2:=Hd (HFIN.out w2 w3 HW2.out (HK.out.trans HK2.out) HD2.out HW3.out HK3.out);clear h3 C2;go_wp2_with fail;exact⟨HR2.out,by simp only[intOf];omega⟩
   .have hk0I:¬(0:Int)<k:=Z;rw[iN hk0,List.append_nil]at HFIN HLE;have C2:=Hd (HP1.out g _ wr HW (by rw[lA];exact HLE.out));clear hk0;go_wp2_with fail;refine C2.out.mono ?_;intro e w3 h3;obtain⟨rfl,HW3,HK3⟩:=h3.go;have HR2:=Hd (HFIN.out wr w3 HW.out HK.out HD.out HW3.out HK3.out);clear h3 C2;go_wp2_with fail;exact⟨HR2.out,by simp only[intOf];omega⟩
  .have hltI:¬(k:Int)<ks.length:=Z;have hz:ts.drop k=[]:=List.drop_eq_nil_of_le (by have:=HLT.out;omega);have hnk:¬(0<k/\k<ts.length):=by have:=HLT.out;omega
   have hfo:o=fin:=by have:=HF.out;rw[hz,iN hnk]at this;simpa[allT]using this
   have HX:=Hd (HQ.out _ (hfo▸HW.out) HK.out);clear hz hnk hfo;go_wp2_with fail;exact bodyPost_end (results_none rfl _ _ _) rfl HX.out
theorem yCs{i:Nat}{a:ByteArray}{t:List UInt8}(h:Wt E g out W)(hp:PO E i t)(hs:(out++(a.data.toList++t)).length<=1000000000):Calls Tryz.prog 136 #[wpV g,.string a,.int .i64 (i:Int)] W (WP E g (out++(if t=[]then[]else a.data.toList++t)) W (.tuple #[])):=by
 obtain⟨T,hT⟩:∃T,T=out++(if t=[]then[]else a.data.toList++t):=⟨_,rfl⟩;rw[<-hT];have HQ:Hid (∀W',Wt E g T W'->KpW g W W'->WP E g T W (.tuple #[]) (.returned (.tuple #[])) W'):=Hd λW' a b=>WP.mk a b;generalize WP E g T W (.tuple #[])=Q at *;rw[lA,lA]at hs;have HT:=Hd hT;have HW:=Hd h;have C1:=Hd (yFu h hp Z);clear h hp hT;go_enter Tryz.func136,Tryz.ntmps136;go_wp2_with fail;refine C1.out.mono ?_;intro e w1 h1;unfold StP at h1;obtain⟨rfl,hb1⟩:=h1;have HW1:=Hd (HW.out.ext hb1);have HK1:Hid (KpW g W w1):=Hd ⟨λk o h _ _=>keeps hb1 h,hb1.mono (Nat.le_of_lt HW.out.lt)⟩;clear hb1 C1;by_cases hz:t=[]
 .subst hz;have hT:=HT.out;rw[iP rfl,List.append_nil]at hT;have HX:=Hd (HQ.out _ (hT▸HW1.out) HK1.out);clear hT;go_wp2_with fail;exact bodyPost_end (results_none rfl _ _ _) rfl HX.out
 .have hT:=HT.out;rw[iN hz]at hT;have hne:t.isEmpty=false:=by simpa using hz
  have C2:=Hd (kW HW1.out [a,⟨t.toArray⟩] Ob (by simp only[cat,List.flatMap_cons,List.flatMap_nil,List.append_nil,lA];omega));have hcat:cat [a,⟨t.toArray⟩]=a.data.toList++t:=by simp[cat]
  rw[hcat]at C2;have HTT:=Hd hT;clear hT hcat hz;go_wp2_with fail;refine C2.out.mono ?_;intro e w2 h2;obtain⟨rfl,HW2,HK2⟩:=h2.go;have HX:=Hd (HQ.out _ (HTT.out▸HW2.out) (HK1.out.trans HK2.out));clear h2 C2;go_wp2_with fail;exact bodyPost_end (results_none rfl _ _ _) rfl HX.out
end
end Go.Proofs.YtfpjdpdmgceciaaGreatDoor
