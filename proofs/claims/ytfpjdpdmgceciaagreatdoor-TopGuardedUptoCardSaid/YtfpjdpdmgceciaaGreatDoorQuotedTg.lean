/- Layer 6: the program's reader, walked. -/
import Derived.Test.YtfpjdpdmgceciaaGreatDoorRunesTg
import Derived.Test.YtfpjdpdmgceciaaGreatDoorClassTg
import Derived.Test.YtfpjdpdmgceciaaGreatDoorQuotedPTg
import Derived.Lib.AppendStr
import Derived.Deep.RegionHeldLaw
import Derived.Deep.RegionLaw
import Derived.Deep.QuietTactic
import Derived.BigQuiet
namespace Go.Proofs.YtfpjdpdmgceciaaGreatDoor
set_option maxRecDepth 100000
set_option maxHeartbeats 32000000
set_option linter.all false
open Go.RowKit
structure RS(w:World)(b:Nat)(s:ByteArray)(i mark:Int)(l:List Int)(bad:Bool):Prop where
 tabs:Tabs w
 lt1:1<b
 lt2:2<b
 row:∃out,w.heap[b]?=some (.cells #[.string s,.int .i64 i,.int .u8 mark,out,.bool bad] 181 (0,0))/\w.ownsRow (b+1) 5 1 out l.length (l.map (Value.int .u8))
theorem Tabs.same{w w':World}(h:Tabs w)(h1:w'.heap[1]?=w.heap[1]?)(h2:w'.heap[2]?=w.heap[2]?)(hs:w.heap.size<=w'.heap.size):Tabs w':=by
 obtain⟨⟨g1,g2⟩,h3,h4⟩:=h;refine⟨⟨λc hc=>?_,λi hi=>⟨?_,?_⟩⟩,Nat.lt_of_lt_of_le h3 hs,Nat.lt_of_lt_of_le h4 hs⟩
 .rw[World.cell?_of_block h1];exact g1 c hc
 .rw[World.cell?_of_block h2];exact(g2 i hi).1
 .rw[World.cell?_of_block h2];exact(g2 i hi).2
theorem zBm{w w':World}{B:Nat}{v:Value}{e:TypeId}{size n:Nat}{xs:List Value}(h:w.ownsRow B e size v n xs)(hb:∀g,B<=g->g<w.heap.size->w'.heap[g]?=w.heap[g]?):w'.ownsRow B e size v n xs:=by
 obtain⟨h1,h2⟩:=h;refine⟨h1,?_⟩;rcases h2 with h2|⟨g,cap,cur,hv,hg,hh,r⟩
 .exact Or.inl h2
 .exact Or.inr ⟨g,cap,cur,hv,hg,by rw[hb g hg (yH hh)];exact hh,r⟩
theorem jS{P:Program}{ops:Array Oper}{o:Oper}{a:Act}{w:World}{K:Act->World->Prop}{Q:Exit->Act->World->Prop}{E:Prop}(hgd:o.guard=none)(sl x:Operand)(t u:TypeId)(ho:o.op=.call { callee:=.builtin .append,args:=#[sl,x],argTypes:=#[t,u] })(base:Nat)(e:TypeId)(ht:P.underlying t=some (.slice e))(hu:P.underlying u=some .string)(hinfo:(P.info? e).map (λi=>(i.zero,i.size,i.bytes))=some (some (.int .u8 0),1,1))(v:Value)(n:Nat)(xs:List Value)(hs:a.eval sl=v)(hown:w.ownsRow base e 1 v n xs)(s:ByteArray)(hx:a.eval x=.string s)(hbytes:n+s.size<=140737488355328)(hbase:base<=w.heap.size)(h:∀v' w',w'.ownsRow base e 1 v' (n+s.size) (xs++Lib.strCells s)->w.grownBy w' v.ownBlock->K (a.put o.dst v') w') :
  if Region.wanted o (yielded ops a.tmps)=true then Oper.wp P o a w K Q else E:=by
 obtain⟨i,hi,hz0,hz1,hz2⟩:=info_parts hinfo;have hw:Region.wanted o (yielded ops a.tmps)=true:=by simp[Region.wanted,hgd]
 rw[iP hw];obtain⟨v',w',hr,h2,h3,h4⟩:=Lib.run_append_own_string (P:=P) w base t u o.type e i ht hu hi hz0 hz1 hz2 v n xs hown s (by unfold maxLen;omega) hbytes hbase;unfold Oper.wp execOp;simp only[ho,resolve,invoke,builtin,Sem.run_bind,Sem.run_pure,Result.andThen_ok,List.map_toArray,List.map_cons,List.map_nil,hs,hx,hr];exact h v' w' h2 h3
section
variable {w:World} {b:Nat} {s:ByteArray} {i mark:Int} {l:List Int} {bad:Bool}
theorem RS.at'(h:RS w b s i mark l bad)(j:Int):RS (w.setCell ⟨b,1,none⟩ (.int .i64 j)) b s j mark l bad:=by
 obtain⟨ht,h1,h2,out,hh,ho⟩:=h;refine⟨ht.same (heap_setCell_other _ _ _ _ (Nat.ne_of_lt h1)) (heap_setCell_other _ _ _ _ (Nat.ne_of_lt h2)) (by simp[World.setCell]),h1,h2,out,?_,?_⟩
 .rw[heap_setCell_same w b 1 _ _ _ hh];rfl
 .exact zBm ho λg hg _=>heap_setCell_other _ _ _ _ (by show g≠b;omega)
theorem RS.mark'(h:RS w b s i mark l bad)(j:Int):RS (w.setCell ⟨b,2,none⟩ (.int .u8 j)) b s i j l bad:=by
 obtain⟨ht,h1,h2,out,hh,ho⟩:=h;refine⟨ht.same (heap_setCell_other _ _ _ _ (Nat.ne_of_lt h1)) (heap_setCell_other _ _ _ _ (Nat.ne_of_lt h2)) (by simp[World.setCell]),h1,h2,out,?_,?_⟩
 .rw[heap_setCell_same w b 2 _ _ _ hh];rfl
 .exact zBm ho λg hg _=>heap_setCell_other _ _ _ _ (by show g≠b;omega)
theorem RS.bad'(h:RS w b s i mark l bad)(c:Bool):RS (w.setCell ⟨b,4,none⟩ (.bool c)) b s i mark l c:=by
 obtain⟨ht,h1,h2,out,hh,ho⟩:=h;refine⟨ht.same (heap_setCell_other _ _ _ _ (Nat.ne_of_lt h1)) (heap_setCell_other _ _ _ _ (Nat.ne_of_lt h2)) (by simp[World.setCell]),h1,h2,out,?_,?_⟩
 .rw[heap_setCell_same w b 4 _ _ _ hh];rfl
 .exact zBm ho λg hg _=>heap_setCell_other _ _ _ _ (by show g≠b;omega)
theorem RS.drew(h:RS w b s i mark l bad):RS w.drew b s i mark l bad:=⟨h.tabs,h.lt1,h.lt2,h.row⟩
theorem RS.drewN(h:RS w b s i mark l bad)(n:Nat):RS (w.drewN n) b s i mark l bad:=⟨h.tabs,h.lt1,h.lt2,h.row⟩
theorem RS.below(h:RS w b s i mark l bad){w':World}(hb:Below w.heap.size w w'):RS w' b s i mark l bad:=by
 obtain⟨ht,h1,h2,out,hh,ho⟩:=h;exact⟨ht.below hb,h1,h2,out,keeps hb hh,yM ho hb⟩
theorem RS.lt(h:RS w b s i mark l bad):b<w.heap.size:=by obtain⟨_,_,_,out,hh,_⟩:=h;exact yH hh
theorem RS.c0(h:RS w b s i mark l bad):w.cell? ⟨b,0,none⟩=some (.string s):=by
 obtain⟨_,_,_,out,hh,_⟩:=h;simp[World.cell?,hh]
theorem RS.c1(h:RS w b s i mark l bad):w.cell? ⟨b,1,none⟩=some (.int .i64 i):=by
 obtain⟨_,_,_,out,hh,_⟩:=h;simp[World.cell?,hh]
theorem RS.c2(h:RS w b s i mark l bad):w.cell? ⟨b,2,none⟩=some (.int .u8 mark):=by
 obtain⟨_,_,_,out,hh,_⟩:=h;simp[World.cell?,hh]
theorem RS.c4(h:RS w b s i mark l bad):w.cell? ⟨b,4,none⟩=some (.bool bad):=by
 obtain⟨_,_,_,out,hh,_⟩:=h;simp[World.cell?,hh]
theorem RS.c3(h:RS w b s i mark l bad):∃out,w.cell? ⟨b,3,none⟩=some out/\w.ownsRow (b+1) 5 1 out l.length (l.map (Value.int .u8)):=by
 obtain⟨_,_,_,out,hh,ho⟩:=h;exact⟨out,by simp[World.cell?,hh],ho⟩
theorem RS.fz(h:RS w b s i mark l bad)(k:Nat):w.frozen? ⟨b,k,none⟩=false:=by
 obtain⟨_,_,_,out,hh,_⟩:=h;simp[World.frozen?,hh]
theorem RS.grew(h:RS w b s i mark l bad){w1 w':World}(hb:Below w.heap.size w w1){out out':Value}(hc:w.cell? ⟨b,3,none⟩=some out)(hg:w1.grownBy w' out.ownBlock){l':List Int}{xs:List Value}{n:Nat}(hn:n=l'.length)(hx:xs=l'.map (Value.int .u8))(ho:w'.ownsRow (b+1) 5 1 out' n xs):RS (w'.setCell ⟨b,3,none⟩ out') b s i mark l' bad:=by
 subst hn;subst hx;have hlt:=h.lt;obtain⟨ht,h1,h2,out0,hh,ho0⟩:=h;obtain rfl:out0=out:=by
  have:w.cell? ⟨b,3,none⟩=some out0:=by simp[World.cell?,hh]
  rw[this]at hc;exact Option.some.inj hc
 have hsz:=hb.size;have hblk:∀k,k<=b->w'.heap[k]?=w.heap[k]?:=by
  intro k hk;rw[hg.block k Z ?_,hb.block k Z];intro e;have:=(ho0.lt k e.symm).1;omega
 have hs':=hg.size;refine⟨ht.same ?_ ?_ (by simp[World.setCell];omega),h1,h2,out',?_,?_⟩
 .rw[heap_setCell_other _ _ _ _ (Nat.ne_of_lt h1)];exact hblk _ Z
 .rw[heap_setCell_other _ _ _ _ (Nat.ne_of_lt h2)];exact hblk _ Z
 .have hh':=(hblk b (nR _)).trans hh;rw[heap_setCell_same w' b 3 _ _ _ hh'];rfl
 .exact zBm ho λg hg _=>heap_setCell_other _ _ _ _ (by show g≠b;omega)
theorem RS.grew_cell(h:RS w b s i mark l bad){w1 w':World}(hb:Below w.heap.size w w1){out:Value}(hc:w.cell? ⟨b,3,none⟩=some out)(hg:w1.grownBy w' out.ownBlock):w'.cell? ⟨b,3,none⟩=some out/\w'.frozen? ⟨b,3,none⟩=false:=by
 have hlt:=h.lt;have hz:=h.fz 3;obtain⟨ht,h1,h2,out0,hh,ho0⟩:=h;obtain rfl:out0=out:=by
  have:w.cell? ⟨b,3,none⟩=some out0:=by simp[World.cell?,hh]
  rw[this]at hc;exact Option.some.inj hc
 have hsz:=hb.size;have hblk:w'.heap[b]?=w.heap[b]?:=by
  rw[hg.block b Z ?_,hb.block b Z];intro e;have:=(ho0.lt b e.symm).1;omega
 exact⟨by rw[World.cell?_of_block hblk];exact hc,by rw[World.frozen?_of_block hblk];exact hz⟩
theorem RS.grew_below(h:RS w b s i mark l bad){w0 w1 w':World}(h0:Below b w0 w)(hb:Below w.heap.size w w1){out out':Value}(hc:w.cell? ⟨b,3,none⟩=some out)(hg:w1.grownBy w' out.ownBlock):Below b w0 (w'.setCell ⟨b,3,none⟩ out'):=by
 have hlt:=h.lt;obtain⟨ht,h1,h2,out0,hh,ho0⟩:=h;obtain rfl:out0=out:=by
  have:w.cell? ⟨b,3,none⟩=some out0:=by simp[World.cell?,hh]
  rw[this]at hc;exact Option.some.inj hc
 have hsz:=hb.size;refine Below.setCell ?_ (nR b) _;refine(h0.trans (hb.mono Z)).grown hg Z λk hk=>?_;have:=(ho0.lt k hk).1;omega
end
theorem bdrewN{B:Nat}{a w:World}(h:Below B a w)(n:Nat):Below B a (w.drewN n):=⟨h.os,h.tape,h.output,h.size,h.block⟩
theorem yBt(s:ByteArray)(bs:Int)(i c:Nat)(n:Int)(h:i<s.size)(h0:0<=base (bt s i))(h1:base (bt s i)<bs):num s bs i (c+1) n=num s bs (i+1) c (n*bs+base (bt s i)):=by
 rw[num,iP ⟨h,h0,h1⟩]
theorem yBu(s:ByteArray)(bs:Int)(i c:Nat)(n:Int)(h:¬(i<s.size/\0<=base (bt s i)/\base (bt s i)<bs)):num s bs i (c+1) n=none:=by
 rw[num,iN h]
@[irreducible] def numPost(s:ByteArray)(b i:Nat)(mark:Int)(l:List Int)(bs:Int)(count:Nat)(w0:World)(e:Ending)(w':World):Prop :=
 Below b w0 w'/\((∃n,num s bs i count 0=some n/\e=.returned (.int .i64 n)/\RS w' b s (i+count:Nat) mark l false)\/(num s bs i count 0=none/\e=.returned (.int .i64 0)/\∃j,RS w' b s j mark l true))
theorem jD(s:ByteArray)(b i:Nat)(mark:Int)(l:List Int)(bs:Int)(hbs:bs=8\/bs=16)(count:Nat)(hcnt:count<=8)(w0:World)(hR:RS w0 b s i mark l false)(hs:s.size<=140737488355328)(hi:i<=s.size) :
  Calls Tryz.prog 237 #[.pointer (some ⟨b,0,none⟩),.int .i64 count,.int .i64 bs] w0 (numPost s b i mark l bs count w0):=by
 have HQ:Hid (∀e w',Below b w0 w'/\((∃n,num s bs i count 0=some n/\e=.returned (.int .i64 n)/\RS w' b s (i+count:Nat) mark l false)\/(num s bs i count 0=none/\e=.returned (.int .i64 0)/\∃j,RS w' b s j mark l true))->numPost s b i mark l bs count w0 e w') :=
  Hd λe w' h=>by unfold numPost;exact h
 generalize numPost s b i mark l bs count w0=Q at *;have HB:=Hd zHj;have HR:=Hd hR;clear hR;go_enter Tryz.func237,Tryz.ntmps237;go_wp2_with fail;go_loopw [7,10] (λn k wr=>∃(kk:Nat) (nn:Int),kk<=count/\n=.int .i64 nn/\k=.int .i64 kk/\0<=nn/\nn<16 ^ kk/\i+kk<=s.size/\num s bs i count 0=num s bs (i+kk) (count-kk) nn/\Below b w0 wr/\RS wr b s (i+kk:Nat) mark l false) (λ_ k _=>count-(intOf k).toNat)
 case atStart=>exact⟨0,0,Nat.zero_le _,rfl,rfl,Z,Z,Z,rfl,bR _ _,HR.out⟩
 case round =>
  obtain⟨k,n,hk,rfl,rfl,hn0,hn1,hik,hnum,hb,hr⟩:=hrel;have c0:=hr.c0;have c1:=hr.c1;have z1:=hr.fz 1;have z4:=hr.fz 4;have HN:=Hd hnum;have HRR:=Hd hr;clear hnum hr;by_cases hlt:k<count
  .have hkl:(k:Int)<count:=Z;by_cases hp:i+k<s.size
   .have hpl:((i+k:Nat):Int)<s.size:=Z;have hp0:(0:Int)<=((i+k:Nat):Int):=Z;generalize hW:i+k=p at *;have hw:IntKind.i32.wrap ((s[p]'hp).toNat:Int)=(bt s p:Int):=by
     rw[zL s p hp];have:=yT s p;unfold IntKind.wrap;simp[IntKind.signed,IntKind.bits];omega
    have hbt:=yT s p;have hyes:=yBt s bs p (count-k-1) n hp;have hno:=yBu s bs p (count-k-1) n;have hrange:=zSz (bt s p);have C:=λw=>zHj (bt s p) Z w
    generalize hx:base (bt s p)=x at *;generalize bt s p=c at *;have HX:=Hd hx;have HC:=Hd C;have HY:=Hd hyes;have HNO:=Hd hno;clear hx C hyes hno;go_wp2_with fail;go_quiet (fail);have hr1:=HRR.out.drewN nq;have hb1:=bdrewN hb nq;generalize wr.drewN nq=w1 at *;have c0:=hr1.c0;have c1:=hr1.c1;have HR1:=Hd hr1;clear hr1;go_wp2_with fail;have HC':∀n,Calls Tryz.prog 252 #[.int .i32 (c:Int)] (w1.drewN n) λe w''=>e=.returned (.int .i64 x)/\∃m,w''=w1.drewN m:=λn=>Calls.quiet_of_same ((HC.out _).mono λe w' h=>⟨h.1,h.2.symm⟩)
    have HCC:=Hd HC';clear HC';go_quiet (exact HCC.out _);have hr2:=HR1.out.drewN nq;have hb2:=bdrewN hb1 nq;generalize w1.drewN nq=w2 at *;have c1:=hr2.c1;have z1:=hr2.fz 1;have z4:=hr2.fz 4;have c4:=hr2.c4;have HR2:=Hd hr2;clear hr2 HR1 hb1;have hbad:∀(hx:x<0\/bs<=x),Q (.returned (.int .i64 0)) (w2.setCell ⟨b,4,none⟩ (.bool true)):=λhx=>by
     refine HQ.out _ _ ⟨hb2.setCell (by exact nR b) _,Or.inr ⟨?_,rfl,_,HR2.out.bad' true⟩⟩;rw[HN.out,show count-k=count-k-1+1 by omega];exact HNO.out Z
    have HBad:=Hd hbad;clear hbad;have hgood:0<=x->x<bs->num s bs i count 0=num s bs (i+(k+1)) (count-(k+1)) (n*bs+x):=λh1 h2=>by
     rw[HN.out,show count-k=count-k-1+1 by omega,HY.out h1 h2]
     congr 1<;>omega
    have HGood:=Hd hgood;clear hgood HN HY HNO;by_cases g0:x<0
    .go_wp2_with fail;show Q (.returned (.int .i64 0)) _;exact HBad.out (Or.inl g0)
    .by_cases g1:bs<=x
     .go_wp2_with fail;show Q (.returned (.int .i64 0)) _;exact HBad.out (Or.inr g1)
     .have hpow:(16:Int) ^ k<=16 ^ 7:=by
       have:16 ^ k<=16 ^ 7:=Nat.pow_le_pow_right Z Z
       exact_mod_cast this
      have hpow1:(16:Int) ^ (k+1)=16 ^ k*16:=Int.pow_succ _ _;have hm1:0<=n*bs/\n*bs<=n*16:=by rcases hbs with rfl|rfl<;>omega
      have hm2:n*bs+x<16 ^ (k+1):=Z;have hw1:IntKind.i64.wrap (n*bs)=n*bs:=by unfold IntKind.wrap;simp[IntKind.signed,IntKind.bits];omega
      have hw2:IntKind.i64.wrap (n*bs+x)=n*bs+x:=by unfold IntKind.wrap;simp[IntKind.signed,IntKind.bits];omega
      have hm3:0<=n*bs+x:=Z;have hm4:n*bs+x<16 ^ 9:=Z;generalize hmul:n*bs=m at *;go_wp2_with fail;go_roundw
      case rel=>exact⟨k+1,m+x,Z,by go_num,by go_num,hm3,hm2,Z,HGood.out Z Z,hb2.setCell (by exact nR b) _,by
       have:=HR2.out.at' (i+(k+1):Nat);have e:(p:Int)+1=((i+(k+1):Nat):Int):=Z;rw[e];exact this⟩
      case measure=>simp[intOf];omega
   .have hpl:(s.size:Int)<=((i+k:Nat):Int):=Z;have c4:=HRR.out.c4;have hno:=yBu s bs (i+k) (count-k-1) n;have HNO:=Hd hno;clear hno;generalize hW:i+k=p at *;go_wp2_with fail;go_quiet (fail);have hr1:=HRR.out.drewN nq;have hb1:=bdrewN hb nq;generalize wr.drewN nq=w1 at *;have c4:=hr1.c4;have z4:=hr1.fz 4;have HR1:=Hd hr1;clear hr1;have h99:bs<=99:=Z;go_wp2_with fail;show Q (.returned (.int .i64 _)) _;refine HQ.out _ _ ⟨hb1.setCell (by exact nR b) _,Or.inr ⟨?_,rfl,_,HR1.out.bad' true⟩⟩;rw[HN.out,show count-k=count-k-1+1 by omega];exact HNO.out Z
  .have hkl:(count:Int)<=k:=Z;obtain rfl:k=count:=Z;go_wp2_with fail;show Q (.returned (.int .i64 _)) _;refine HQ.out _ _ ⟨hb,Or.inl ⟨n,?_,rfl,HRR.out⟩⟩;rw[HN.out,Nat.sub_self,num]
theorem zCr(s:ByteArray):Lib.strCells s=(nums s).map (Value.int .u8):=by
 unfold Lib.strCells nums;rw[List.map_map];rfl
theorem zXg(r:Int):nums (form r)=formZ r:=by
 unfold form;apply zIo;intro x hx;unfold formZ at hx;by_cases hm:may r=false
 .rw[iP hm]at hx;cases hx
 .have hm':=(yZ r).1 (by simpa using hm);rw[iN hm]at hx
  repeat' split at hx
  all_goals(simp at hx;omega)
theorem zEy(r:Int):(formZ r).length<=4:=by
 unfold formZ;by_cases h:may r=false
 .rw[iP h];simp
 .rw[iN h];by_cases h1:r<128
  .rw[iP h1];simp
  .rw[iN h1];by_cases h2:r<2048
   .rw[iP h2];simp
   .rw[iN h2];by_cases h3:r<65536
    .rw[iP h3];simp
    .rw[iN h3];simp
theorem zSw(r:Int):form r=ByteArray.empty↔may r=false:=by
 constructor
 .intro h;by_cases hm:may r=true
  .have:=yEe hm;rw[h]at this;simp at this
  .simpa using hm
 .exact zFh
theorem vX:(Tryz.prog.info? 5).map (λi=>(i.zero,i.size,i.bytes))=some (some (.int .u8 0),1,1):=Oa
def codeZ(n:Int)(char:Bool)(mark:Int):Option (List Int):=if char=false/\mark=34 then some [n % 256]else if may n then some (formZ n)else none
@[irreducible] def codePost(s:ByteArray)(b:Nat)(i mark:Int)(l:List Int)(bad:Bool)(n:Int)(char:Bool)(w0:World)(e:Ending)(w':World):Prop :=
 Below b w0 w'/\e=.returned (.tuple #[])/\match codeZ n char mark with
  |some x=>RS w' b s i mark (l++x) bad
  |none=>RS w' b s i mark l true
theorem xN(s:ByteArray)(b:Nat)(i mark:Int)(l:List Int)(bad:Bool)(n:Int)(hn:0<=n/\n<4294967296)(char:Bool)(w0:World)(hR:RS w0 b s i mark l bad)(hl:l.length<=140737488355000) :
  Calls Tryz.prog 236 #[.pointer (some ⟨b,0,none⟩),.int .i64 n,.bool char] w0 (codePost s b i mark l bad n char w0):=by
 have HQ:Hid (∀e w',Below b w0 w'->e=.returned (.tuple #[])->(∀x,codeZ n char mark=some x->RS w' b s i mark (l++x) bad)->(codeZ n char mark=none->RS w' b s i mark l true)->codePost s b i mark l bad n char w0 e w') :=
  Hd λe w' h1 h2 h3 h4=>by
   unfold codePost;refine⟨h1,h2,?_⟩;cases hz:codeZ n char mark with
   |some x=>exact h3 x hz
   |none=>exact h4 hz
 generalize codePost s b i mark l bad n char w0=Q at *;have c2:=hR.c2;have z3:=hR.fz 3;have z4:=hR.fz 4;obtain⟨out,c3,ho⟩:=hR.c3;have HR:=Hd hR;have HO:=Hd ho;have hR0:=hR;clear hR ho;by_cases hA:char=false/\mark=34
 .clear hR0;obtain⟨rfl,rfl⟩:=hA;go_enter Tryz.func236,Tryz.ntmps236;have hb1:Below w0.heap.size w0 (w0.alloc (.cells #[.int .u8 (n % 256)] 5)):=(bR _ w0).alloc (nR _) _;have hwn:IntKind.u8.wrap n=n % 256:=by unfold IntKind.wrap;simp[IntKind.signed,IntKind.bits]
  go_wp2_with (at_builtin;refine zQ w0 #[.int .u8 (n % 256)] _ rfl _ _ 92 5 rfl Tryz.underlying92 (b+1) vX rfl V _ _ _ rfl HO.out 1 1 rfl rfl V (by intro u hu;simp at hu;subst hu;rfl) ?_ ?_ ?_ ?_)
  .omega
  .omega
  .have:=HR.out.lt;omega
  intro v' w1 hown hgr _;obtain⟨c3',z3'⟩:=HR.out.grew_cell hb1 c3 hgr;have hR':=HR.out.grew hb1 c3 hgr (l':=l++[n % 256]) Ob Ob hown;have hB':=HR.out.grew_below (bR b w0) (out':=v') hb1 c3 hgr;obtain⟨va,vm,vc,rfl⟩:=zI hown;have HR':=Hd hR';have HB':=Hd hB';clear hR' hB' hgr hown hb1;go_wp2_with fail;refine bodyPost_ret (results_none rfl _ _ _) rfl ?_;refine HQ.out _ _ HB'.out rfl (λx hx=>?_) (λhx=>?_)
  .simp only[codeZ,and_self,if_true,Option.some.injEq]at hx;rw[<-hx];exact HR'.out
  .simp[codeZ]at hx
 .have hz:codeZ n char mark=if may n then some (formZ n)else none:=by unfold codeZ;rw[iN hA]
  have c4:=hR0.c4;clear hR0;have HZ:=Hd hz;clear hz;have hmk:char=false->¬mark=34:=λh h'=>hA ⟨h,h'⟩
  clear hA;by_cases hb1:1114111<n
  .have hm:may n=false:=by rw[yGh];omega
   have HM:=Hd hm;clear hm;have HE:Hid (Q (.returned (.tuple #[])) (w0.setCell ⟨b,4,none⟩ (.bool true))):=by
    refine Hd (HQ.out _ _ ((bR b w0).setCell (by exact nR b) _) rfl (λx hx=>?_) (λ_=>HR.out.bad' true));rw[HZ.out,iN (by rw[HM.out];decide)]at hx;cases hx
   rcases Bool.eq_false_or_eq_true char with rfl|rfl
   .go_enter Tryz.func236,Tryz.ntmps236;go_wp2_with fail;refine bodyPost_ret (results_none rfl _ _ _) rfl ?_;exact HE.out
   .have hmk:=hmk rfl;go_enter Tryz.func236,Tryz.ntmps236;go_wp2_with fail;refine bodyPost_ret (results_none rfl _ _ _) rfl ?_;exact HE.out
  .have hwn:IntKind.i32.wrap n=n:=by unfold IntKind.wrap;simp[IntKind.signed,IntKind.bits];omega
   have C:=λw=>zTn n w;have hfe:=zSw n;have hfl:=zCp n;have hnum:=zXg n;generalize hF:form n=F at *;have HF:=Hd hF;have HN:=Hd hnum;have HC:=Hd C;clear hF hnum C;by_cases hm:may n=false
   .have HE:Hid (Q (.returned (.tuple #[])) (w0.setCell ⟨b,4,none⟩ (.bool true))):=by
     refine Hd (HQ.out _ _ ((bR b w0).setCell (by exact nR b) _) rfl (λx hx=>?_) (λ_=>HR.out.bad' true));rw[HZ.out,iN (by rw[hm];decide)]at hx;cases hx
    have hF0:=hfe.2 hm;subst hF0;clear hfe hfl;rcases Bool.eq_false_or_eq_true char with rfl|rfl
    .go_enter Tryz.func236,Tryz.ntmps236;go_wp2_with fail;refine(HC.out _).mono ?_;rintro e w1 ⟨rfl,rfl⟩;go_wp2_with fail;refine bodyPost_ret (results_none rfl _ _ _) rfl ?_;exact HE.out
    .have hmk:=hmk rfl;go_enter Tryz.func236,Tryz.ntmps236;go_wp2_with fail;refine(HC.out _).mono ?_;rintro e w1 ⟨rfl,rfl⟩;go_wp2_with fail;refine bodyPost_ret (results_none rfl _ _ _) rfl ?_;exact HE.out
   .have hF0:¬F=ByteArray.empty:=λh=>hm (hfe.1 h)
    have hF1:F.toList.isEmpty=false:=by
     rw[Bool.eq_false_iff];intro h;apply hF0;rw[List.isEmpty_iff,ByteArray.toList_eq]at h;apply ByteArray.ext;apply Array.ext';rw[h];rfl
    clear hfe hF0;have hlen:l.length+F.size<=140737488355328:=by
     have h4:=zEy n;omega
    have hbase:b+1<=w0.heap.size:=HR.out.lt;have HRd:=Hd HR.out.drew;have c3d:w0.drew.cell? ⟨b,3,none⟩=some out:=c3;have HOd:Hid (w0.drew.ownsRow (b+1) 5 1 out l.length (l.map (Value.int .u8))):=HO;have he:∀(v':Value)(w1:World),w1.ownsRow (b+1) 5 1 v' (l.length+F.size) (l.map (Value.int .u8)++Lib.strCells F)->w0.drew.grownBy w1 out.ownBlock->Q (.returned (.tuple #[])) (w1.setCell ⟨b,3,none⟩ v'):=λv' w1 hown hgr=>by
     refine HQ.out _ _ (HRd.out.grew_below (bR b w0).drew (bR _ _) c3d hgr) rfl (λx hx=>?_) (λhx=>?_)
     .rw[HZ.out,iP (by simpa using hm),Option.some.injEq]at hx;refine HRd.out.grew (bR _ _) c3d hgr ?_ ?_ hown
      .rw[lA,<-hx,<-HN.out,zBo]
      .rw[List.map_append,zCr,HN.out,hx]
     .rw[HZ.out,iP (by simpa using hm)]at hx;cases hx
    have HE:=Hd he;clear he;rcases Bool.eq_false_or_eq_true char with rfl|rfl
    .go_enter Tryz.func236,Tryz.ntmps236;go_wp2_with fail;refine(HC.out _).mono ?_;rintro e w1 ⟨rfl,rfl⟩;go_wp2_with fail
     go_region_law
      (first
       |(refine jS rfl _ _ 92 9 rfl (b+1) 5 Tryz.underlying92 Tryz.underlying9 vX out l.length (l.map (Value.int .u8)) rfl HOd.out F rfl hlen hbase ?_;intro v' w1 hown hgr;obtain⟨c3',z3'⟩:=HRd.out.grew_cell (bR _ _) c3d hgr;obtain⟨va,vm,vc,rfl⟩:=zI hown)
       |(go_simp;go_at_call 251;refine(HC.out _).mono ?_;rintro e w1 ⟨rfl,rfl⟩))
     all_goals(refine bodyPost_end (results_none rfl _ _ _) rfl ?_;exact HE.out _ _ hown hgr)
    .have hmk:=hmk rfl;go_enter Tryz.func236,Tryz.ntmps236;go_wp2_with fail;refine(HC.out _).mono ?_;rintro e w1 ⟨rfl,rfl⟩;go_wp2_with fail
     go_region_law
      (first
       |(refine jS rfl _ _ 92 9 rfl (b+1) 5 Tryz.underlying92 Tryz.underlying9 vX out l.length (l.map (Value.int .u8)) rfl HOd.out F rfl hlen hbase ?_;intro v' w1 hown hgr;obtain⟨c3',z3'⟩:=HRd.out.grew_cell (bR _ _) c3d hgr;obtain⟨va,vm,vc,rfl⟩:=zI hown)
       |(go_simp;go_at_call 251;refine(HC.out _).mono ?_;rintro e w1 ⟨rfl,rfl⟩))
     all_goals(refine bodyPost_end (results_none rfl _ _ _) rfl ?_;exact HE.out _ _ hown hgr)
theorem zGq{P:Program}{ops:Array Oper}{o:Oper}{a:Act}{w:World}{K:Act->World->Prop}{Q:Exit->Act->World->Prop}{E:Prop}{C:Array Value}{e':TypeId}(hgd:o.guard=none)(sl x:Operand)(t e:TypeId)(ho:o.op=.call { callee:=.builtin .append,args:=#[sl,x],argTypes:=#[t,t] })(ht:P.underlying t=some (.slice e))(base:Nat){z:Value}{bytes:Nat}(hinfo:(P.info? e).map (λi=>(i.zero,i.size,i.bytes))=some (some z,1,bytes))(hzs:z.cells.size=1)(v:Value)(n:Nat)(xs:List Value)(hs:a.eval sl=v)(hown:w.ownsRow base e 1 v n xs)(m c:Nat)(hx:a.eval x=.slice (some ⟨w.heap.size,0,none⟩) m c)(hl:C.size=m)(hm:0<m)(h1:∀u∈C.toList,u.oneCell'=true)(hbytes:(n+m)*bytes<=140737488355328)(h63:n+m<=140737488355328)(hbase:base<=w.heap.size)(h:∀v' w',w'.ownsRow base e 1 v' (n+m) (xs++C.toList)->(w.alloc (.cells C e')).grownBy w' v.ownBlock->K (a.put o.dst v') w') :
  if Region.wanted o (yielded ops a.tmps)=true then Oper.wp P o a (w.alloc (.cells C e')) K Q else E:=by
 obtain⟨i,hi,hz0,hz1,hz2⟩:=info_parts hinfo;have hw:Region.wanted o (yielded ops a.tmps)=true:=by simp[Region.wanted,hgd]
 rw[iP hw];obtain⟨v',w',hr,h2,h3,h4⟩:=run_append_own (P:=P) (w:=w.alloc (.cells C e')) base t o.type e i z 1 bytes ht hi hz0 hz1 hz2 hzs Z v n xs (hown.alloc _) ⟨w.heap.size,0,none⟩ m c C.toList (by simpa using hl) (λj u hj=>by
  have e1:(⟨w.heap.size,0,none⟩:Addr).add j=⟨w.heap.size,j,none⟩:=by simp[Addr.add];omega
  rw[e1,World.cell?_alloc_at _ _ _ _ rfl]
  simpa using hj) h1 (by unfold maxLen;omega) hbytes (by simp;omega)
 unfold Oper.wp execOp;simp only[ho,resolve,invoke,builtin,Sem.run_bind,Sem.run_pure,Result.andThen_ok,List.map_toArray,List.map_cons,List.map_nil,hs,hx,hr];exact h v' w' h2 h3
theorem RS.put1{w w0 w':World}{b:Nat}{s:ByteArray}{i mark:Int}{l:List Int}{bad:Bool}(h:RS w b s i mark l bad)(h0:Below b w0 w){C:Array Value}{e':TypeId}{out out':Value}{y:Int}(hC:C.toList=[Value.int .u8 y])(hc:w.cell? ⟨b,3,none⟩=some out)(hg:(w.alloc (.cells C e')).grownBy w' out.ownBlock)(hown:w'.ownsRow (b+1) 5 1 out' (l.length+1) (l.map (Value.int .u8)++C.toList)) :
  RS (w'.setCell ⟨b,3,none⟩ out') b s i mark (l++[y]) bad/\Below b w0 (w'.setCell ⟨b,3,none⟩ out'):=by
 have hb1:Below w.heap.size w (w.alloc (.cells C e')):=(bR _ _).alloc (nR _) _;exact⟨h.grew hb1 hc hg Ob (by rw[hC];simp) hown,h.grew_below h0 hb1 hc hg⟩
theorem yFl(k:Nat)(h:k<8)(hq:k<(⟨#[7,8,12,10,13,9,11,92]⟩:ByteArray).size):(((⟨#[7,8,12,10,13,9,11,92]⟩:ByteArray)[k]'hq).toNat:Int)=escSays.getD k 0:=by
 rw[<-get!_lt];revert h;revert k;intro k hq h;exact(by decide +kernel:∀k,k<8->(((⟨#[7,8,12,10,13,9,11,92]⟩:ByteArray).get! k).toNat:Int)=escSays.getD k 0) k h
theorem and255(n:Int)(h0:0<=n)(h:n<512):bits .and .i64 n 255=n % 256:=by
 have:=(by decide +kernel:∀k,k<512->bits .and .i64 ((k:Nat):Int) 255=((k:Nat):Int) % 256) n.toNat Z
 rwa [Int.toNat_of_nonneg h0]at this
theorem zFz(n:Int)(h0:0<=n)(h:n<256)(mark:Nat)(hmark:mark=34\/mark=39):codeZ n false mark=some (small n mark):=by
 unfold codeZ small;rcases hmark with rfl|rfl
 .simp;omega
 .have:may n=true:=by rw[yZ];omega
  simp[this]
theorem zBn{s:ByteArray}{b:Nat}{i mark:Int}{l:List Int}{n:Int}{char:Bool}{w0 w':World}{e:Ending}(h:codePost s b i mark l true n char w0 e w'):Below b w0 w'/\e=.returned (.tuple #[])/\∃j l',RS w' b s j mark l' true:=by
 unfold codePost at h;obtain⟨h1,h2,h3⟩:=h;refine⟨h1,h2,?_⟩;split at h3
 .exact⟨_,_,h3⟩
 .exact⟨_,_,h3⟩
theorem zCd{s:ByteArray}{b:Nat}{i mark:Int}{l x:List Int}{bad:Bool}{n:Int}{char:Bool}{w0 w':World}{e:Ending}(h:codePost s b i mark l bad n char w0 e w')(hz:codeZ n char mark=some x):Below b w0 w'/\e=.returned (.tuple #[])/\RS w' b s i mark (l++x) bad:=by
 unfold codePost at h;rw[hz]at h;exact h
theorem zLh{s:ByteArray}{b:Nat}{i mark:Int}{l:List Int}{bad:Bool}{n:Int}{char:Bool}{w0 w':World}{e:Ending}(h:codePost s b i mark l bad n char w0 e w')(hz:codeZ n char mark=none):Below b w0 w'/\e=.returned (.tuple #[])/\RS w' b s i mark l true:=by
 unfold codePost at h;rw[hz]at h;exact h
theorem zQc:∀c,c<256->Lib.indexByte [97,98,102,110,114,116,118,92] (UInt8.ofNat c)=if kP.idxOf c<8 then(kP.idxOf c:Int)else -1:=by decide +kernel
@[irreducible] def escPost(s:ByteArray)(b i mark:Nat)(l:List Int)(w0:World)(e:Ending)(w':World):Prop :=
 Below b w0 w'/\e=.returned (.tuple #[])/\match esc s i mark with
  |some (n,x)=>RS w' b s (i+n:Nat) mark (l++x) false
  |none=>∃j l',RS w' b s j mark l' true
theorem zKf(s:ByteArray)(b i mark:Nat)(hmark:mark=34\/mark=39)(l:List Int)(w0:World)(hR:RS w0 b s (i+1:Nat) mark l false)(hi:i<s.size)(hs:s.size<=140737488351232)(hl:l.length<=i) :
  Calls Tryz.prog 202 #[.pointer (some ⟨b,0,none⟩)] w0 (escPost s b i mark l w0):=by
 have HQ:Hid (∀w',Below b w0 w'->(∀n x,esc s i mark=some (n,x)->RS w' b s (i+n:Nat) mark (l++x) false)->(esc s i mark=none->∃j l',RS w' b s j mark l' true)->escPost s b i mark l w0 (.returned (.tuple #[])) w') :=
  Hd λw' h1 h3 h4=>by
   unfold escPost;refine⟨h1,rfl,?_⟩;cases hz:esc s i mark with
   |some x=>exact h3 x.1 x.2 hz
   |none=>exact h4 hz
 generalize escPost s b i mark l w0=Q at *;have c0:=hR.c0;have c1:=hR.c1;have c4:=hR.c4;have z4:=hR.fz 4;have HR:=Hd hR;clear hR;by_cases hp:i+1<s.size
 .have hp1:((i+1:Nat):Int)<s.size:=Z;generalize hP:i+1=p at *;have hc:=zL s p hp;have hb:=yT s p;have hE:esc s i mark=_:=rfl
  conv at hE=>rhs;rw[esc,iN Z,hP]
  generalize bt s p=c at *;have HC:=Hd hc;have HE:=Hd hE;clear hE;have CI:∀w,_:=λw=>(Tryz.strings_IndexByte ⟨#[97,98,102,110,114,116,118,92]⟩ c w).mono (λe w' h=>(⟨h.1,h.2.symm⟩:_/\w=w'))
  rw[show((⟨#[97,98,102,110,114,116,118,92]⟩:ByteArray).data.toList)=[97,98,102,110,114,116,118,92]from rfl,show(c:Int).toNat.toUInt8=UInt8.ofNat c from rfl,zQc c hb]at CI;generalize hix:(if kP.idxOf c<8 then(kP.idxOf c:Int)else -1)=ix at *;have CI:=Hd CI;go_enter Tryz.func202,Tryz.ntmps202;go_wp2_with fail;go_quiet (fail);have hr1:=HR.out.drewN nq;have hb1:=bdrewN (bR b w0) nq;generalize w0.drewN nq=w1 at *;have c0:=hr1.c0;have c1:=hr1.c1;go_wp2_with fail;go_quiet (fail);have hr2:=hr1.drewN nq;have hb2:=bdrewN hb1 nq;generalize w1.drewN nq=w2 at *;have c0:=hr2.c0;have c1:=hr2.c1;have c2:=hr2.c2;have z1:=hr2.fz 1;have HR2:=Hd hr2;have HB2:=Hd hb2;clear hr1 hb1 hr2 hb2;go_wp2_with fail;refine(CI.out _).mono ?_;rintro e w' ⟨rfl,rfl⟩;by_cases hk:kP.idxOf c<8
  .rw[iP hk]at HE hix;generalize kP.idxOf c=k at *;subst hix;have hk8:(k:Int)<8:=Z;go_wp2_with fail;have hr3:=HR2.out.at' ((p:Int)+1);have hb3:=HB2.out.setCell (p:=⟨b,1,none⟩) (nR b) (.int .i64 ((p:Int)+1));generalize w2.setCell ⟨b,1,none⟩ (.int .i64 ((p:Int)+1))=w3 at *;obtain⟨out,c3,ho⟩:=hr3.c3;have z3:=hr3.fz 3;have HR3:=Hd hr3.drew;have c3d:w3.drew.cell? ⟨b,3,none⟩=some out:=c3;have HO3:Hid (w3.drew.ownsRow (b+1) 5 1 out l.length (l.map (Value.int .u8))):=ho;have hbase:b+1<=w3.drew.heap.size:=HR3.out.lt;have hb3d:=hb3.drew;have ca:∀o:Obj,(w3.alloc o).cell? ⟨b,3,none⟩=some out:=λo=>by rw[<-c3];exact World.cell?_of_block (Below.heap_alloc _ _ _ hr3.lt)
   clear hr3 ho
   go_region_law
    (first
     |(refine zGq (w:=w3.drew) rfl _ _ 92 5 rfl Tryz.underlying92 (b+1) vX rfl out l.length (l.map (Value.int .u8)) rfl HO3.out 1 1 rfl rfl V (by intro u hu;simp at hu;subst hu;rfl) Z Z hbase ?_;intro v' w4 hown hgr;obtain⟨c3',z3'⟩:=HR3.out.grew_cell ((bR _ _).alloc (nR _) _) c3d hgr;obtain⟨va,vm,vc,rfl⟩:=zI hown))
   all_goals (
    go_wp2_with fail;refine bodyPost_ret (results_none rfl _ _ _) rfl ?_;obtain⟨hr4,hb4⟩:=HR3.out.put1 hb3d (y:=escSays.getD k 0) (by simp only[yFl k hk]) c3d hgr hown;refine HQ.out _ hb4 (λn x hx=>?_) (λhx=>?_)
    .rw[HE.out]at hx;cases hx
     rw[show((i+2:Nat):Int)=(p:Int)+1 by omega];exact hr4
    .rw[HE.out]at hx;cases hx)
  .rw[iN hk]at HE hix;subst hix;have hnot:∀x∈kP,c≠x:=λx hx e=>hk (List.idxOf_lt_length_of_mem (e▸hx))
   clear hk;by_cases hm:c=mark
   .rw[iP hm]at HE;have hm':(c:Int)=mark:=Z;have hr3:=HR2.out.at' ((p:Int)+1);have hb3:=HB2.out.setCell (p:=⟨b,1,none⟩) (nR b) (.int .i64 ((p:Int)+1));obtain⟨out,c3',ho'⟩:=HR2.out.c3;have c3:(w2.setCell ⟨b,1,none⟩ (.int .i64 ((p:Int)+1))).cell? ⟨b,3,none⟩=some out:=by
     rw[World.cell?_setCell_other _ _ _ _ Ob];exact c3'
    have ho:(w2.setCell ⟨b,1,none⟩ (.int .i64 ((p:Int)+1))).ownsRow (b+1) 5 1 out l.length (l.map (Value.int .u8)):=zBm ho' λg hg _=>heap_setCell_other _ _ _ _ (by show g≠b;omega)
    have HR3:=Hd hr3;have HO3:=Hd ho;have hbase:b+1<=(w2.setCell ⟨b,1,none⟩ (.int .i64 ((p:Int)+1))).heap.size:=HR3.out.lt;clear hr3 ho ho';have hsz:(w2.setCell ⟨b,1,none⟩ (.int .i64 ((p:Int)+1))).heap.size=w2.heap.size:=by simp[World.setCell]
    go_wp2_with (at_builtin;generalize w2.setCell ⟨b,1,none⟩ (.int .i64 ((p:Int)+1))=w3 at *;refine zQ w3 #[.int .u8 (mark:Int)] _ rfl _ _ 92 5 rfl Tryz.underlying92 (b+1) vX rfl V out _ _ rfl HO3.out 1 1 (congrArg (λn=>Value.slice (some ⟨n,0,none⟩) 1 1) hsz.symm) rfl V (by intro u hu;simp at hu;subst hu;rfl) Z Z hbase ?_);intro v' w4 hown hgr _;obtain⟨c3',z3'⟩:=HR3.out.grew_cell ((bR _ _).alloc (nR _) _) c3 hgr;obtain⟨va,vm,vc,rfl⟩:=zI hown;go_wp2_with fail;refine bodyPost_ret (results_none rfl _ _ _) rfl ?_;obtain⟨hr4,hb4⟩:=HR3.out.put1 hb3 (y:=(mark:Int)) rfl c3 hgr hown;refine HQ.out _ hb4 (λn x hx=>?_) (λhx=>?_)
    .rw[HE.out]at hx;cases hx
     rw[show((i+2:Nat):Int)=(p:Int)+1 by omega,hm'];exact hr4
    .rw[HE.out]at hx;cases hx
   .rw[iN hm]at HE;have hm':¬(c:Int)=mark:=Z;have hr3:RS (w2.setCell ⟨b,1,none⟩ (.int .i64 ((p:Int)+1))) b s ((i+2:Nat):Int) mark l false:=by
     rw[show((i+2:Nat):Int)=(p:Int)+1 by omega];exact HR2.out.at' _
    have hb3:=HB2.out.setCell (p:=⟨b,1,none⟩) (nR b) (.int .i64 ((p:Int)+1));have HR3:=Hd hr3;have HB3:=Hd hb3;clear hr3 hb3;by_cases g1:c=120
    .rw[iP g1]at HE;have g1':(c:Int)=120:=Z;go_wp2_with fail;generalize w2.setCell ⟨b,1,none⟩ (.int .i64 ((p:Int)+1))=w3 at *;refine(jD s b (i+2) mark l 16 (Or.inr rfl) 2 Z w3 HR3.out Z Z).mono ?_;intro e w4 h4;unfold numPost at h4;obtain⟨hb4,h4⟩:=h4;have hb04:=HB3.out.trans hb4;rcases h4 with⟨n,hn,rfl,hr4⟩|⟨hn,rfl,j,hr4⟩
     .have hrg:=kJ s 16 Z 2 (i+2) 0 n Z hn;have hn256:n<256:=by have:=hrg.2.1;omega
      have hz:=zFz n hrg.1 hn256 mark hmark;have HN:=Hd hn;have HZ:=Hd hz;clear hn hz;go_wp2_with fail;refine(xN s b _ mark l false n Z false w4 hr4 Z).mono ?_;intro e w5 h5;obtain⟨hb5,rfl,hr5⟩:=zCd h5 HZ.out;go_wp2_with fail;refine bodyPost_ret (results_none rfl _ _ _) rfl ?_;refine HQ.out _ (hb04.trans hb5) (λn' x hx=>?_) (λhx=>?_)
      .rw[HE.out,HN.out]at hx;cases hx
       exact hr5
      .rw[HE.out,HN.out]at hx;cases hx
     .have HN:=Hd hn;clear hn;go_wp2_with fail;refine(xN s b _ mark l true 0 Z false w4 hr4 Z).mono ?_;intro e w5 h5;obtain⟨hb5,rfl,hr5⟩:=zBn h5;go_wp2_with fail;refine bodyPost_ret (results_none rfl _ _ _) rfl ?_;refine HQ.out _ (hb04.trans hb5) (λn' x hx=>?_) (λhx=>hr5);rw[HE.out,HN.out]at hx;cases hx
    .rw[iN g1]at HE;have g1':¬(c:Int)=120:=Z;by_cases g2:c=85
     .have g2':(c:Int)=85:=Z;have HE:Hid (esc s i mark=(num s 16 (i+2) 8 0).bind λn=>if may n=true then some (2+8,formZ n)else none):=by
       have:=HE.out;rw[iP (Or.inr g2),iP g2]at this;exact this
      go_wp2_with fail;generalize w2.setCell ⟨b,1,none⟩ (.int .i64 ((p:Int)+1))=w3 at *;refine(jD s b (i+2) mark l 16 (Or.inr rfl) 8 Z w3 HR3.out Z Z).mono ?_;intro e w4 h4;unfold numPost at h4;obtain⟨hb4,h4⟩:=h4;have hb04:=HB3.out.trans hb4;rcases h4 with⟨n,hn,rfl,hr4⟩|⟨hn,rfl,j,hr4⟩
      .have hrg:=kJ s 16 Z 8 (i+2) 0 n Z hn;have hn256:n<4294967296:=by have:=hrg.2.1;omega
       have hz:codeZ n true mark=if may n then some (formZ n)else none:=by unfold codeZ;rw[iN Ob]
       have HN:=Hd hn;have HZ:=Hd hz;clear hn hz;go_wp2_with fail;refine(xN s b _ mark l false n Z true w4 hr4 Z).mono ?_;intro e w5 h5;by_cases hmay:may n=true
       .obtain⟨hb5,rfl,hr5⟩:=zCd h5 (by rw[HZ.out,iP hmay]);go_wp2_with fail;refine bodyPost_ret (results_none rfl _ _ _) rfl ?_;refine HQ.out _ (hb04.trans hb5) (λn' x hx=>?_) (λhx=>?_)
        .rw[HE.out,HN.out,Option.bind_some,iP hmay]at hx;cases hx
         exact hr5
        .rw[HE.out,HN.out,Option.bind_some,iP hmay]at hx;cases hx
       .obtain⟨hb5,rfl,hr5⟩:=zLh h5 (by rw[HZ.out,iN hmay]);go_wp2_with fail;refine bodyPost_ret (results_none rfl _ _ _) rfl ?_;refine HQ.out _ (hb04.trans hb5) (λn' x hx=>?_) (λhx=>⟨_,_,hr5⟩);rw[HE.out,HN.out,Option.bind_some,iN hmay]at hx;cases hx
      .have HN:=Hd hn;clear hn;go_wp2_with fail;refine(xN s b _ mark l true 0 Z true w4 hr4 Z).mono ?_;intro e w5 h5;obtain⟨hb5,rfl,hr5⟩:=zBn h5;go_wp2_with fail;refine bodyPost_ret (results_none rfl _ _ _) rfl ?_;refine HQ.out _ (hb04.trans hb5) (λn' x hx=>?_) (λhx=>hr5);rw[HE.out,HN.out]at hx;cases hx
     .have g2':¬(c:Int)=85:=Z;by_cases g3:c=117
      .have g3':(c:Int)=117:=Z;have HE:Hid (esc s i mark=(num s 16 (i+2) 4 0).bind λn=>if may n=true then some (2+4,formZ n)else none):=by
        have:=HE.out;rw[iP (Or.inl g3),iN g2]at this;exact this
       go_wp2_with fail;generalize w2.setCell ⟨b,1,none⟩ (.int .i64 ((p:Int)+1))=w3 at *;refine(jD s b (i+2) mark l 16 (Or.inr rfl) 4 Z w3 HR3.out Z Z).mono ?_;intro e w4 h4;unfold numPost at h4;obtain⟨hb4,h4⟩:=h4;have hb04:=HB3.out.trans hb4;rcases h4 with⟨n,hn,rfl,hr4⟩|⟨hn,rfl,j,hr4⟩
       .have hrg:=kJ s 16 Z 4 (i+2) 0 n Z hn;have hn256:n<4294967296:=by have:=hrg.2.1;omega
        have hz:codeZ n true mark=if may n then some (formZ n)else none:=by unfold codeZ;rw[iN Ob]
        have HN:=Hd hn;have HZ:=Hd hz;clear hn hz;go_wp2_with fail;refine(xN s b _ mark l false n Z true w4 hr4 Z).mono ?_;intro e w5 h5;by_cases hmay:may n=true
        .obtain⟨hb5,rfl,hr5⟩:=zCd h5 (by rw[HZ.out,iP hmay]);go_wp2_with fail;refine bodyPost_ret (results_none rfl _ _ _) rfl ?_;refine HQ.out _ (hb04.trans hb5) (λn' x hx=>?_) (λhx=>?_)
         .rw[HE.out,HN.out,Option.bind_some,iP hmay]at hx;cases hx
          exact hr5
         .rw[HE.out,HN.out,Option.bind_some,iP hmay]at hx;cases hx
        .obtain⟨hb5,rfl,hr5⟩:=zLh h5 (by rw[HZ.out,iN hmay]);go_wp2_with fail;refine bodyPost_ret (results_none rfl _ _ _) rfl ?_;refine HQ.out _ (hb04.trans hb5) (λn' x hx=>?_) (λhx=>⟨_,_,hr5⟩);rw[HE.out,HN.out,Option.bind_some,iN hmay]at hx;cases hx
       .have HN:=Hd hn;clear hn;go_wp2_with fail;refine(xN s b _ mark l true 0 Z true w4 hr4 Z).mono ?_;intro e w5 h5;obtain⟨hb5,rfl,hr5⟩:=zBn h5;go_wp2_with fail;refine bodyPost_ret (results_none rfl _ _ _) rfl ?_;refine HQ.out _ (hb04.trans hb5) (λn' x hx=>?_) (λhx=>hr5);rw[HE.out,HN.out]at hx;cases hx
      .have g3':¬(c:Int)=117:=Z;have HE:Hid (esc s i mark=(num s 8 (i+1) 3 0).bind λn=>if 255<n then none else some (4,small n mark)):=by
        have:=HE.out;rw[iN Z,<-hP]at this;exact this
       clear HR3 HB3;have HR2':Hid (RS w2 b s ((i+1:Nat):Int) mark l false):=by rw[hP];exact HR2
       go_wp2_with fail;refine(jD s b (i+1) mark l 8 (Or.inl rfl) 3 Z w2 HR2'.out Z Z).mono ?_;intro e w4 h4;unfold numPost at h4;obtain⟨hb4,h4⟩:=h4;have hb04:=HB2.out.trans hb4;rcases h4 with⟨n,hn,rfl,hr4⟩|⟨hn,rfl,j,hr4⟩
       .have hrg:=kJ s 8 Z 3 (i+1) 0 n Z hn;have hn512:n<512:=by have:=hrg.2.1;omega
        have HN:=Hd hn;clear hn;have c4:=hr4.c4;have z4:=hr4.fz 4;have HR4:=Hd hr4;clear hr4;have hand:=and255 n hrg.1 hn512;by_cases hbig:255<n
        .go_wp2_with fail;refine(xN s b _ mark l true (n % 256) Z false _ (HR4.out.bad' true) Z).mono ?_;intro e w5 h5;obtain⟨hb5,rfl,hr5⟩:=zBn h5;go_wp2_with fail;refine bodyPost_ret (results_none rfl _ _ _) rfl ?_;refine HQ.out _ ((hb04.setCell (by exact nR b) _).trans hb5) (λn' x hx=>?_) (λhx=>hr5);rw[HE.out,HN.out,Option.bind_some,iP hbig]at hx;cases hx
        .have hz:=zFz n hrg.1 Z mark hmark;have HZ:=Hd hz;clear hz;replace hand:bits .and .i64 n 255=n:=by rw[hand];omega
         have hdec:decide (255<n)=false:=decide_eq_false hbig;go_wp2_with fail;refine(xN s b _ mark l false n Z false _ (HR4.out.bad' false) Z).mono ?_;intro e w5 h5;obtain⟨hb5,rfl,hr5⟩:=zCd h5 HZ.out;go_wp2_with fail;refine bodyPost_ret (results_none rfl _ _ _) rfl ?_;refine HQ.out _ ((hb04.setCell (by exact nR b) _).trans hb5) (λn' x hx=>?_) (λhx=>?_)
         .rw[HE.out,HN.out,Option.bind_some,iN (Int.not_lt.2 hbig)]at hx;cases hx
          exact hr5
         .rw[HE.out,HN.out,Option.bind_some,iN (Int.not_lt.2 hbig)]at hx;cases hx
       .have HN:=Hd hn;clear hn;have c4:=hr4.c4;have z4:=hr4.fz 4;have HR4:=Hd hr4;clear hr4;have hand:bits .and .i64 0 255=0:=by rw[and255 0 Z Z];rfl
        go_wp2_with fail;refine(xN s b _ mark l true 0 Z false _ (HR4.out.bad' true) Z).mono ?_;intro e w5 h5;obtain⟨hb5,rfl,hr5⟩:=zBn h5;go_wp2_with fail;refine bodyPost_ret (results_none rfl _ _ _) rfl ?_;refine HQ.out _ ((hb04.setCell (by exact nR b) _).trans hb5) (λn' x hx=>?_) (λhx=>hr5);rw[HE.out,HN.out]at hx;cases hx
 .have c1s:(s.size:Int)<=(i+1:Nat):=Z;have HE:esc s i mark=none:=by rw[esc,iP Z]
  go_enter Tryz.func202,Tryz.ntmps202;go_wp2_with fail;go_quiet (fail);have hr1:=HR.out.drewN nq;have hb1:=bdrewN (bR b w0) nq;generalize w0.drewN nq=w1 at *;have c4:=hr1.c4;have z4:=hr1.fz 4;go_wp2_with fail;refine bodyPost_ret (results_none rfl _ _ _) rfl ?_;refine HQ.out _ (hb1.setCell (by exact nR b) _) (λn x hx=>?_) (λhx=>⟨_,_,hr1.bad' true⟩);rw[HE]at hx;cases hx
end Go.Proofs.YtfpjdpdmgceciaaGreatDoor
