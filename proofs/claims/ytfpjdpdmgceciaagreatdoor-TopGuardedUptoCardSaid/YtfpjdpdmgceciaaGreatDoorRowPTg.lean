/- Layer 11: the document's table, walked. -/
import Derived.Test.YtfpjdpdmgceciaaGreatDoorCheckPTg
import Derived.Test.YtfpjdpdmgceciaaGreatDoorTermTg
import Derived.Test.YtfpjdpdmgceciaaGreatDoorPureTg
import Derived.Test.YtfpjdpdmgceciaaGreatDoorSwapPTg
import Derived.Test.YtfpjdpdmgceciaaGreatDoorCoreTg
namespace Go.Proofs.YtfpjdpdmgceciaaGreatDoor
set_option linter.all false
open Go.RowKit
def strV(l:List (List UInt8)):List Value:=l.map λx=>Value.string ⟨x.toArray⟩
def strO(l:List (List UInt8)):Obj:=.cells (strV l).toArray 9
def rw0(w:World):World:=w.alloc (.cells #[.int .i64 0,.bool false,.bool false,.slice none 0 0] 69)
def rw1(w:World):World:=(rw0 w).alloc (strO wGen)
def rw2(w:World):World:=(rw1 w).alloc (strO wGen)
def rw3(w:World):World:=(rw2 w).alloc (strO [[46]])
def rw4(w:World):World:=(rw3 w).alloc (strO [[61]])
def rw5(w:World):World:=(rw4 w).alloc (strO [[46,46,46]])
def rw6(w:World):World:=(rw5 w).alloc (strO [[46,46,46]])
def rw7(w:World):World:=(rw6 w).alloc (strO wUn)
def rw8(w:World):World:=(rw7 w).alloc (strO wBin)
def rw9(w:World):World:=(rw8 w).alloc (strO wChan)
def rw10(w:World):World:=(rw9 w).alloc (strO wInc)
def rw11(w:World):World:=(rw10 w).alloc (strO wAsg)
def rw12(w:World):World:=(rw11 w).alloc (strO wBr)
def rw13(w:World):World:=(rw12 w).alloc (strO [[61],[58,61]])
def slOf(w:World)(k:Nat):Value:=match k with
 |3=>.slice (some ⟨(rw0 w).heap.size,0,none⟩) 4 4
 |4=>.slice (some ⟨(rw1 w).heap.size,0,none⟩) 4 4
 |5=>.slice (some ⟨(rw2 w).heap.size,0,none⟩) 1 1
 |7=>.slice (some ⟨(rw3 w).heap.size,0,none⟩) 1 1
 |15=>.slice (some ⟨(rw4 w).heap.size,0,none⟩) 1 1
 |34=>.slice (some ⟨(rw5 w).heap.size,0,none⟩) 1 1
 |36=>.slice (some ⟨(rw6 w).heap.size,0,none⟩) 6 6
 |37=>.slice (some ⟨(rw7 w).heap.size,0,none⟩) 19 19
 |45=>.slice (some ⟨(rw8 w).heap.size,0,none⟩) 3 3
 |52=>.slice (some ⟨(rw9 w).heap.size,0,none⟩) 2 2
 |53=>.slice (some ⟨(rw10 w).heap.size,0,none⟩) 13 13
 |57=>.slice (some ⟨(rw11 w).heap.size,0,none⟩) 4 4
 |66=>.slice (some ⟨(rw12 w).heap.size,0,none⟩) 2 2
 |_=>.slice none 0 0
def rowV(w:World)(k:Nat):List Value:=[.int .i64 ((arL k).1:Int),.bool (arL k).2,.bool (noneT k),slOf w k]
def rowC(w:World):Array Value:=((List.range 69).flatMap (rowV w)).toArray
def rw14(w:World):World:=(rw13 w).alloc (.cells (rowC w) 69)
theorem yS{w a:World}(h:Below w.heap.size w a)(o:Obj):Below w.heap.size w (a.alloc o):=h.alloc h.size o
theorem yJb(w:World):Below w.heap.size w (rw0 w):=(bR _ _).alloc (nR _) _
theorem yJc(w:World):Below w.heap.size w (rw1 w):=yS (yJb w) _
theorem yJd(w:World):Below w.heap.size w (rw2 w):=yS (yJc w) _
theorem yJe(w:World):Below w.heap.size w (rw3 w):=yS (yJd w) _
theorem yJf(w:World):Below w.heap.size w (rw4 w):=yS (yJe w) _
theorem yJg(w:World):Below w.heap.size w (rw5 w):=yS (yJf w) _
theorem yJh(w:World):Below w.heap.size w (rw6 w):=yS (yJg w) _
theorem yJi(w:World):Below w.heap.size w (rw7 w):=yS (yJh w) _
theorem yJj(w:World):Below w.heap.size w (rw8 w):=yS (yJi w) _
theorem yJk(w:World):Below w.heap.size w (rw9 w):=yS (yJj w) _
theorem yIe(w:World):Below w.heap.size w (rw10 w):=yS (yJk w) _
theorem yIf(w:World):Below w.heap.size w (rw11 w):=yS (yIe w) _
theorem yIg(w:World):Below w.heap.size w (rw12 w):=yS (yIf w) _
theorem yIh(w:World):Below w.heap.size w (rw13 w):=yS (yIg w) _
theorem yIi(w:World):Below w.heap.size w (rw14 w):=yS (yIh w) _
theorem yI(a:World)(o:Obj):Below a.heap.size a (a.alloc o):=(bR _ _).alloc (nR _) _
theorem yIj(w:World):Below (rw14 w).heap.size (rw14 w) (rw14 w):=bR _ _
theorem yCx(w:World):Below (rw13 w).heap.size (rw13 w) (rw14 w):=zD (yI (rw13 w) _) (yIj w)
theorem yCy(w:World):Below (rw12 w).heap.size (rw12 w) (rw14 w):=zD (yI (rw12 w) _) (yCx w)
theorem yCz(w:World):Below (rw11 w).heap.size (rw11 w) (rw14 w):=zD (yI (rw11 w) _) (yCy w)
theorem yDa(w:World):Below (rw10 w).heap.size (rw10 w) (rw14 w):=zD (yI (rw10 w) _) (yCz w)
theorem yGr(w:World):Below (rw9 w).heap.size (rw9 w) (rw14 w):=zD (yI (rw9 w) _) (yDa w)
theorem yGs(w:World):Below (rw8 w).heap.size (rw8 w) (rw14 w):=zD (yI (rw8 w) _) (yGr w)
theorem yGt(w:World):Below (rw7 w).heap.size (rw7 w) (rw14 w):=zD (yI (rw7 w) _) (yGs w)
theorem yGu(w:World):Below (rw6 w).heap.size (rw6 w) (rw14 w):=zD (yI (rw6 w) _) (yGt w)
theorem yGv(w:World):Below (rw5 w).heap.size (rw5 w) (rw14 w):=zD (yI (rw5 w) _) (yGu w)
theorem yGw(w:World):Below (rw4 w).heap.size (rw4 w) (rw14 w):=zD (yI (rw4 w) _) (yGv w)
theorem yGx(w:World):Below (rw3 w).heap.size (rw3 w) (rw14 w):=zD (yI (rw3 w) _) (yGw w)
theorem yGy(w:World):Below (rw2 w).heap.size (rw2 w) (rw14 w):=zD (yI (rw2 w) _) (yGx w)
theorem yGz(w:World):Below (rw1 w).heap.size (rw1 w) (rw14 w):=zD (yI (rw1 w) _) (yGy w)
theorem yJl(w:World):Below (rw0 w).heap.size (rw0 w) (rw14 w):=zD (yI (rw0 w) _) (yGz w)
theorem vT(a:World)(l:List (List UInt8))(n:Nat)(hn:l.length=n):Row (a.alloc (strO l)) (.slice (some ⟨a.heap.size,0,none⟩) n n) l.length 1 (strV l):=by
 subst hn;refine⟨by simp[strV],some ⟨a.heap.size,0,none⟩,l.length,rfl,nR _,Ob,λ_=>⟨a.heap.size,0,rfl,Ob,λi _=>?_⟩⟩;unfold strO;rw[Nat.zero_add,World.cell?_alloc_at _ _ _ _ rfl];simp
theorem yDb(w:World)(k:Nat):Row (rw14 w) (slOf w k) (wordsT k).length 1 (strV (wordsT k)):=by
 unfold slOf;split
 .exact Row.below (vT (rw0 w) wGen 4 rfl) (yGz w)
 .exact Row.below (vT (rw1 w) wGen 4 rfl) (yGy w)
 .exact Row.below (vT (rw2 w) [[46]] 1 rfl) (yGx w)
 .exact Row.below (vT (rw3 w) [[61]] 1 rfl) (yGw w)
 .exact Row.below (vT (rw4 w) [[46,46,46]] 1 rfl) (yGv w)
 .exact Row.below (vT (rw5 w) [[46,46,46]] 1 rfl) (yGu w)
 .exact Row.below (vT (rw6 w) wUn 6 rfl) (yGt w)
 .exact Row.below (vT (rw7 w) wBin 19 rfl) (yGs w)
 .exact Row.below (vT (rw8 w) wChan 3 rfl) (yGr w)
 .exact Row.below (vT (rw9 w) wInc 2 rfl) (yDa w)
 .exact Row.below (vT (rw10 w) wAsg 13 rfl) (yCz w)
 .exact Row.below (vT (rw11 w) wBr 4 rfl) (yCy w)
 .exact Row.below (vT (rw12 w) [[61],[58,61]] 2 rfl) (yCx w)
 .rename_i h3 h4 h5 h7 h15 h34 h36 h37 h45 h52 h53 h57 h66;have e:wordsT k=[]:=by
   have g3:k≠3:=h3;have g4:k≠4:=h4;have g5:k≠5:=h5;have g7:k≠7:=h7;have g15:k≠15:=h15;have g34:k≠34:=h34;have g36:k≠36:=h36;have g37:k≠37:=h37;have g45:k≠45:=h45;have g52:k≠52:=h52;have g53:k≠53:=h53;have g57:k≠57:=h57;have g66:k≠66:=h66;unfold wordsT;rw[iN Z,iN Z,iN Z,iN Z,iN Z,iN Z,iN Z,iN Z,iN Z,iN Z,iN Z]
  rw[e];exact⟨rfl,none,0,rfl,nR _,λ_=>rfl,λh=>absurd h Ob⟩
theorem flat4{f:Nat->List Value}(hf:∀k,(f k).length=4):∀(n k j:Nat),k<n->j<4->((List.range n).flatMap f)[k*4+j]?=(f k)[j]?
 |0,k,j,h,_=>by omega
 |n+1,k,j,h,hj=>by
  have hl:((List.range n).flatMap f).length=n*4:=by
   clear h;induction n with
   |zero=>rfl
   |succ n ih=>rw[List.range_succ,List.flatMap_append,lA,ih];simp[hf];omega
  rw[List.range_succ,List.flatMap_append];by_cases hk:k<n
  .rw[List.getElem?_append_left (by rw[hl];omega)];exact flat4 hf n k j hk hj
  .obtain rfl:k=n:=Z;rw[List.getElem?_append_right (by rw[hl];omega),hl,show k*4+j-k*4=j by omega];simp
theorem zHd(w:World)(k j:Nat)(hk:k<69)(hj:j<4):(rw14 w).cell? ⟨(rw13 w).heap.size,k*4+j,none⟩=(rowV w k)[j]?:=by
 unfold rw14;rw[World.cell?_alloc_at _ _ _ _ rfl];unfold rowC;rw[List.getElem?_toArray];exact flat4 (λ_=>rfl) 69 k j hk hj
theorem yFz(w:World):(rw14 w).heap[w.heap.size]?=some (.cells #[.int .i64 0,.bool false,.bool false,.slice none 0 0] 69 (0,0)) :=
 keeps (yJl w) (heap_alloc_new w _)
theorem yDc(w:World):w.heap.size<(rw0 w).heap.size:=by simp[rw0]
theorem yDd(w:World):w.heap.size<(rw1 w).heap.size:=by have:=yDc w;unfold rw1;simp;omega
theorem yDe(w:World):w.heap.size<(rw2 w).heap.size:=by have:=yDd w;unfold rw2;simp;omega
theorem yDf(w:World):w.heap.size<(rw3 w).heap.size:=by have:=yDe w;unfold rw3;simp;omega
theorem yDg(w:World):w.heap.size<(rw4 w).heap.size:=by have:=yDf w;unfold rw4;simp;omega
theorem yDh(w:World):w.heap.size<(rw5 w).heap.size:=by have:=yDg w;unfold rw5;simp;omega
theorem yDi(w:World):w.heap.size<(rw6 w).heap.size:=by have:=yDh w;unfold rw6;simp;omega
theorem yDj(w:World):w.heap.size<(rw7 w).heap.size:=by have:=yDi w;unfold rw7;simp;omega
theorem yDk(w:World):w.heap.size<(rw8 w).heap.size:=by have:=yDj w;unfold rw8;simp;omega
theorem yDl(w:World):w.heap.size<(rw9 w).heap.size:=by have:=yDk w;unfold rw9;simp;omega
theorem zVl(w:World):w.heap.size<(rw10 w).heap.size:=by have:=yDl w;unfold rw10;simp;omega
theorem zVm(w:World):w.heap.size<(rw11 w).heap.size:=by have:=zVl w;unfold rw11;simp;omega
theorem zVn(w:World):w.heap.size<(rw12 w).heap.size:=by have:=zVm w;unfold rw12;simp;omega
theorem yGa(w:World):w.heap.size<(rw13 w).heap.size:=by have:=zVn w;unfold rw13;simp;omega
theorem yDm(w:World)(k:Nat):(slOf w k).ownBlock≠some w.heap.size:=by
 unfold slOf;split
 .intro e;simp only[Value.ownBlock,Option.some.injEq]at e;have:=yDc w;omega
 .intro e;simp only[Value.ownBlock,Option.some.injEq]at e;have:=yDd w;omega
 .intro e;simp only[Value.ownBlock,Option.some.injEq]at e;have:=yDe w;omega
 .intro e;simp only[Value.ownBlock,Option.some.injEq]at e;have:=yDf w;omega
 .intro e;simp only[Value.ownBlock,Option.some.injEq]at e;have:=yDg w;omega
 .intro e;simp only[Value.ownBlock,Option.some.injEq]at e;have:=yDh w;omega
 .intro e;simp only[Value.ownBlock,Option.some.injEq]at e;have:=yDi w;omega
 .intro e;simp only[Value.ownBlock,Option.some.injEq]at e;have:=yDj w;omega
 .intro e;simp only[Value.ownBlock,Option.some.injEq]at e;have:=yDk w;omega
 .intro e;simp only[Value.ownBlock,Option.some.injEq]at e;have:=yDl w;omega
 .intro e;simp only[Value.ownBlock,Option.some.injEq]at e;have:=zVl w;omega
 .intro e;simp only[Value.ownBlock,Option.some.injEq]at e;have:=zVm w;omega
 .intro e;simp only[Value.ownBlock,Option.some.injEq]at e;have:=zVn w;omega
 .simp[Value.ownBlock]
theorem fH{w:World}{v:Value}{n sz:Nat}{cs:List Value}(h:Row w v n sz cs){a:Addr}(ha:v.ownBlock≠some a.block)(u:Value):Row (w.setCell a u) v n sz cs:=by
 obtain⟨h1,a',cap,hv,hc,hz,h2⟩:=h;refine⟨h1,a',cap,hv,hc,hz,λhpos=>?_⟩;obtain⟨b,off,hb,hbl,hcell⟩:=h2 hpos;have hne:b≠a.block:=λe=>ha (by rw[hv,hb,<-e];rfl)
 exact⟨b,off,hb,by simpa using hbl,λi hi=>by rw[fY hne];exact hcell i hi⟩
set_option maxRecDepth 100000
set_option maxHeartbeats 32000000
theorem cons_of{α:Type}{l:List α}{n:Nat}(h:l.length=n+1):∃x t,l=x::t/\t.length=n:=by
 cases l with
 |nil=>simp at h
 |cons x t=>exact⟨x,t,rfl,by simpa using h⟩
theorem frame97(A:Array Value)(h:A.size=97):∃u0 u1 u2 u3 u4 u5 u6 u7 u8 u9 u10 u11 u12 u13 u14 u15 u16 u17 u18 u19 u20 u21 u22 u23 u24 u25 u26 u27 u28 u29 u30 u31 u32 u33 u34 u35 u36 u37 u38 u39 u40 u41 u42 u43 u44 u45 u46 u47 u48 u49 u50 u51 u52 u53 u54 u55 u56 u57 u58 u59 u60 u61 u62 u63 u64 u65 u66 u67 u68 u69 u70 u71 u72 u73 u74 u75 u76 u77 u78 u79 u80 u81 u82 u83 u84 u85 u86 u87 u88 u89 u90 u91 u92 u93 u94 u95 u96,A=#[u0,u1,u2,u3,u4,u5,u6,u7,u8,u9,u10,u11,u12,u13,u14,u15,u16,u17,u18,u19,u20,u21,u22,u23,u24,u25,u26,u27,u28,u29,u30,u31,u32,u33,u34,u35,u36,u37,u38,u39,u40,u41,u42,u43,u44,u45,u46,u47,u48,u49,u50,u51,u52,u53,u54,u55,u56,u57,u58,u59,u60,u61,u62,u63,u64,u65,u66,u67,u68,u69,u70,u71,u72,u73,u74,u75,u76,u77,u78,u79,u80,u81,u82,u83,u84,u85,u86,u87,u88,u89,u90,u91,u92,u93,u94,u95,u96]:=by
 obtain⟨l0⟩:=A;have h0:l0.length=97:=h;clear h;obtain⟨u0,l1,e,h1⟩:=cons_of h0;subst e;clear h0;obtain⟨u1,l2,e,h2⟩:=cons_of h1;subst e;clear h1;obtain⟨u2,l3,e,h3⟩:=cons_of h2;subst e;clear h2;obtain⟨u3,l4,e,h4⟩:=cons_of h3;subst e;clear h3;obtain⟨u4,l5,e,h5⟩:=cons_of h4;subst e;clear h4;obtain⟨u5,l6,e,h6⟩:=cons_of h5;subst e;clear h5;obtain⟨u6,l7,e,h7⟩:=cons_of h6;subst e;clear h6;obtain⟨u7,l8,e,h8⟩:=cons_of h7;subst e;clear h7;obtain⟨u8,l9,e,h9⟩:=cons_of h8;subst e;clear h8;obtain⟨u9,l10,e,h10⟩:=cons_of h9;subst e;clear h9;obtain⟨u10,l11,e,h11⟩:=cons_of h10;subst e;clear h10;obtain⟨u11,l12,e,h12⟩:=cons_of h11;subst e;clear h11;obtain⟨u12,l13,e,h13⟩:=cons_of h12;subst e;clear h12;obtain⟨u13,l14,e,h14⟩:=cons_of h13;subst e;clear h13;obtain⟨u14,l15,e,h15⟩:=cons_of h14;subst e;clear h14;obtain⟨u15,l16,e,h16⟩:=cons_of h15;subst e;clear h15;obtain⟨u16,l17,e,h17⟩:=cons_of h16;subst e;clear h16;obtain⟨u17,l18,e,h18⟩:=cons_of h17;subst e;clear h17;obtain⟨u18,l19,e,h19⟩:=cons_of h18;subst e;clear h18;obtain⟨u19,l20,e,h20⟩:=cons_of h19;subst e;clear h19;obtain⟨u20,l21,e,h21⟩:=cons_of h20;subst e;clear h20;obtain⟨u21,l22,e,h22⟩:=cons_of h21;subst e;clear h21;obtain⟨u22,l23,e,h23⟩:=cons_of h22;subst e;clear h22;obtain⟨u23,l24,e,h24⟩:=cons_of h23;subst e;clear h23;obtain⟨u24,l25,e,h25⟩:=cons_of h24;subst e;clear h24;obtain⟨u25,l26,e,h26⟩:=cons_of h25;subst e;clear h25;obtain⟨u26,l27,e,h27⟩:=cons_of h26;subst e;clear h26;obtain⟨u27,l28,e,h28⟩:=cons_of h27;subst e;clear h27;obtain⟨u28,l29,e,h29⟩:=cons_of h28;subst e;clear h28;obtain⟨u29,l30,e,h30⟩:=cons_of h29;subst e;clear h29;obtain⟨u30,l31,e,h31⟩:=cons_of h30;subst e;clear h30;obtain⟨u31,l32,e,h32⟩:=cons_of h31;subst e;clear h31;obtain⟨u32,l33,e,h33⟩:=cons_of h32;subst e;clear h32;obtain⟨u33,l34,e,h34⟩:=cons_of h33;subst e;clear h33;obtain⟨u34,l35,e,h35⟩:=cons_of h34;subst e;clear h34;obtain⟨u35,l36,e,h36⟩:=cons_of h35;subst e;clear h35;obtain⟨u36,l37,e,h37⟩:=cons_of h36;subst e;clear h36;obtain⟨u37,l38,e,h38⟩:=cons_of h37;subst e;clear h37;obtain⟨u38,l39,e,h39⟩:=cons_of h38;subst e;clear h38;obtain⟨u39,l40,e,h40⟩:=cons_of h39;subst e;clear h39;obtain⟨u40,l41,e,h41⟩:=cons_of h40;subst e;clear h40;obtain⟨u41,l42,e,h42⟩:=cons_of h41;subst e;clear h41;obtain⟨u42,l43,e,h43⟩:=cons_of h42;subst e;clear h42;obtain⟨u43,l44,e,h44⟩:=cons_of h43;subst e;clear h43;obtain⟨u44,l45,e,h45⟩:=cons_of h44;subst e;clear h44;obtain⟨u45,l46,e,h46⟩:=cons_of h45;subst e;clear h45;obtain⟨u46,l47,e,h47⟩:=cons_of h46;subst e;clear h46;obtain⟨u47,l48,e,h48⟩:=cons_of h47;subst e;clear h47;obtain⟨u48,l49,e,h49⟩:=cons_of h48;subst e;clear h48;obtain⟨u49,l50,e,h50⟩:=cons_of h49;subst e;clear h49;obtain⟨u50,l51,e,h51⟩:=cons_of h50;subst e;clear h50;obtain⟨u51,l52,e,h52⟩:=cons_of h51;subst e;clear h51;obtain⟨u52,l53,e,h53⟩:=cons_of h52;subst e;clear h52;obtain⟨u53,l54,e,h54⟩:=cons_of h53;subst e;clear h53;obtain⟨u54,l55,e,h55⟩:=cons_of h54;subst e;clear h54;obtain⟨u55,l56,e,h56⟩:=cons_of h55;subst e;clear h55;obtain⟨u56,l57,e,h57⟩:=cons_of h56;subst e;clear h56;obtain⟨u57,l58,e,h58⟩:=cons_of h57;subst e;clear h57;obtain⟨u58,l59,e,h59⟩:=cons_of h58;subst e;clear h58;obtain⟨u59,l60,e,h60⟩:=cons_of h59;subst e;clear h59;obtain⟨u60,l61,e,h61⟩:=cons_of h60;subst e;clear h60;obtain⟨u61,l62,e,h62⟩:=cons_of h61;subst e;clear h61;obtain⟨u62,l63,e,h63⟩:=cons_of h62;subst e;clear h62;obtain⟨u63,l64,e,h64⟩:=cons_of h63;subst e;clear h63;obtain⟨u64,l65,e,h65⟩:=cons_of h64;subst e;clear h64;obtain⟨u65,l66,e,h66⟩:=cons_of h65;subst e;clear h65;obtain⟨u66,l67,e,h67⟩:=cons_of h66;subst e;clear h66;obtain⟨u67,l68,e,h68⟩:=cons_of h67;subst e;clear h67;obtain⟨u68,l69,e,h69⟩:=cons_of h68;subst e;clear h68;obtain⟨u69,l70,e,h70⟩:=cons_of h69;subst e;clear h69;obtain⟨u70,l71,e,h71⟩:=cons_of h70;subst e;clear h70;obtain⟨u71,l72,e,h72⟩:=cons_of h71;subst e;clear h71;obtain⟨u72,l73,e,h73⟩:=cons_of h72;subst e;clear h72;obtain⟨u73,l74,e,h74⟩:=cons_of h73;subst e;clear h73;obtain⟨u74,l75,e,h75⟩:=cons_of h74;subst e;clear h74;obtain⟨u75,l76,e,h76⟩:=cons_of h75;subst e;clear h75;obtain⟨u76,l77,e,h77⟩:=cons_of h76;subst e;clear h76;obtain⟨u77,l78,e,h78⟩:=cons_of h77;subst e;clear h77;obtain⟨u78,l79,e,h79⟩:=cons_of h78;subst e;clear h78;obtain⟨u79,l80,e,h80⟩:=cons_of h79;subst e;clear h79;obtain⟨u80,l81,e,h81⟩:=cons_of h80;subst e;clear h80;obtain⟨u81,l82,e,h82⟩:=cons_of h81;subst e;clear h81;obtain⟨u82,l83,e,h83⟩:=cons_of h82;subst e;clear h82;obtain⟨u83,l84,e,h84⟩:=cons_of h83;subst e;clear h83;obtain⟨u84,l85,e,h85⟩:=cons_of h84;subst e;clear h84;obtain⟨u85,l86,e,h86⟩:=cons_of h85;subst e;clear h85;obtain⟨u86,l87,e,h87⟩:=cons_of h86;subst e;clear h86;obtain⟨u87,l88,e,h88⟩:=cons_of h87;subst e;clear h87;obtain⟨u88,l89,e,h89⟩:=cons_of h88;subst e;clear h88;obtain⟨u89,l90,e,h90⟩:=cons_of h89;subst e;clear h89;obtain⟨u90,l91,e,h91⟩:=cons_of h90;subst e;clear h90;obtain⟨u91,l92,e,h92⟩:=cons_of h91;subst e;clear h91;obtain⟨u92,l93,e,h93⟩:=cons_of h92;subst e;clear h92;obtain⟨u93,l94,e,h94⟩:=cons_of h93;subst e;clear h93;obtain⟨u94,l95,e,h95⟩:=cons_of h94;subst e;clear h94;obtain⟨u95,l96,e,h96⟩:=cons_of h95;subst e;clear h95;obtain⟨u96,l97,e,h97⟩:=cons_of h96;subst e;clear h96;obtain rfl:=List.eq_nil_of_length_eq_zero h97;exact⟨_,_,_,_,_,_,_,_,_,_,_,_,_,_,_,_,_,_,_,_,_,_,_,_,_,_,_,_,_,_,_,_,_,_,_,_,_,_,_,_,_,_,_,_,_,_,_,_,_,_,_,_,_,_,_,_,_,_,_,_,_,_,_,_,_,_,_,_,_,_,_,_,_,_,_,_,_,_,_,_,_,_,_,_,_,_,_,_,_,_,_,_,_,_,_,_,_,rfl⟩
@[irreducible] def rowPost(k:Nat)(w0:World)(e:Ending)(w':World):Prop :=
 Below w0.heap.size w0 w'/\if k<69 then ∃vs,e=.returned (.agg #[.int .i64 ((arL k).1:Int),.bool (arL k).2,.bool (noneT k),vs])/\Row w' vs (wordsT k).length 1 (strV (wordsT k))
  else e=.returned (.agg #[.int .i64 (-1),.bool false,.bool false,.slice none 0 0])
theorem zIz(tmps:Array Value)(w:World)(g:Nat)(a b c d:Value)(hp:tmps.getD 2 undef=.pointer (some ⟨g,0,none⟩))(h0:w.heap[g]?=some (.cells #[a,b,c,d] 69 (0,0))) :
  (results Tryz.f26 tmps).run Tryz.prog w=.ok (.agg #[a,b,c,d]) w :=
 results_cell_row rfl tmps w g 69 #[a,b,c,d] (0,0) _ hp h0 Tryz.underlying69 rfl Oa
theorem set4{W:World}{g:Nat}{t:TypeId}{a b c d:Value}(h:W.heap[g]?=some (.cells #[a,b,c,d] t (0,0)))(x0 x1 x2 x3:Value) :
  ((((W.setCell ⟨g,0,none⟩ x0).setCell ⟨g,1,none⟩ x1).setCell ⟨g,2,none⟩ x2).setCell ⟨g,3,none⟩ x3).heap[g]?=some (.cells #[x0,x1,x2,x3] t (0,0)):=by
 have h1:=heap_setCell_same W g 0 _ _ x0 h;have h2:=heap_setCell_same _ g 1 _ _ x1 h1;have h3:=heap_setCell_same _ g 2 _ _ x2 h2;have h4:=heap_setCell_same _ g 3 _ _ x3 h3;exact h4
noncomputable def rowTail:Code:=sndN 2 (Tryz.f26.body.getD .skip)
theorem yCq(u1 u4 u5 u6 u7 u8 u9 u10 u11 u12 u13 u14 u15 u16 u17 u18 u19 u20 u21 u22 u23 u24 u25 u26 u27 u28 u29 u30 u31 u32 u33 u34 u35 u36 u37 u38 u39 u40 u41 u42 u43 u44 u45 u46 u47 u48 u49 u50 u51 u52 u53 u54 u55 u56 u57 u58 u59 u60 u61 u62 u63 u64 u65 u66 u67 u68 u69 u70 u71 u72 u73 u74 u75 u76 u77 u78 u79 u80 u81 u82 u83 u84 u85 u86 u87 u88 u89 u90 u91 u92 u93 u94 u95 u96:Value)(k:Nat)(hk:k<256)(b g:Nat)(hbg:g≠b)(W:World)(hR0:Hid (W.heap[b]?=some (.cells #[.int .i64 0,.bool false,.bool false,.slice none 0 0] 69 (0,0))))(ar:Nat×Bool)(nn:Bool)(va:Option Addr)(vn vc:Nat)(e0:k<69->W.cell? ⟨g,k*4,none⟩=some (.int .i64 (ar.1:Int)))(e1:k<69->W.cell? ⟨g,k*4+1,none⟩=some (.bool ar.2))(e2:k<69->W.cell? ⟨g,k*4+2,none⟩=some (.bool nn))(e3:k<69->W.cell? ⟨g,k*4+3,none⟩=some (.slice va vn vc))(Q:Ending->World->Prop)(HQ:Hid (∀x0 x1 x2 x3,(k<69->x0=.int .i64 (ar.1:Int)/\x1=.bool ar.2/\x2=.bool nn/\x3=.slice va vn vc)->(¬k<69->x0=.int .i64 (-1)/\x1=.bool false/\x2=.bool false/\x3=.slice none 0 0)->Q (.returned (.agg #[x0,x1,x2,x3])) ((((W.setCell ⟨b,0,none⟩ x0).setCell ⟨b,1,none⟩ x1).setCell ⟨b,2,none⟩ x2).setCell ⟨b,3,none⟩ x3))) :
  Code.wp Tryz.prog rowTail (bodyPost Tryz.prog Tryz.f26 Q) ⟨#[.int .u8 (k:Int),u1,.pointer (some ⟨b,0,none⟩),.slice (some ⟨g,0,none⟩) 69 69,u4,u5,u6,u7,u8,u9,u10,u11,u12,u13,u14,u15,u16,u17,u18,u19,u20,u21,u22,u23,u24,u25,u26,u27,u28,u29,u30,u31,u32,u33,u34,u35,u36,u37,u38,u39,u40,u41,u42,u43,u44,u45,u46,u47,u48,u49,u50,u51,u52,u53,u54,u55,u56,u57,u58,u59,u60,u61,u62,u63,u64,u65,u66,u67,u68,u69,u70,u71,u72,u73,u74,u75,u76,u77,u78,u79,u80,u81,u82,u83,u84,u85,u86,u87,u88,u89,u90,u91,u92,u93,u94,u95,u96],[]⟩ W:=by
 unfold rowTail
 conv=>arg 2;whnf
 have z0:∀i,W.frozen? ⟨b,i,none⟩=false:=λi=>by simp[World.frozen?,hR0.out]
 have d0:W.cell? ⟨b,0,none⟩=some (.int .i64 0):=by simp[World.cell?,hR0.out]
 have d1:W.cell? ⟨b,1,none⟩=some (.bool false):=by simp[World.cell?,hR0.out]
 have d2:W.cell? ⟨b,2,none⟩=some (.bool false):=by simp[World.cell?,hR0.out]
 have d3:W.cell? ⟨b,3,none⟩=some (.slice none 0 0):=by simp[World.cell?,hR0.out]
 have hwk:IntKind.i64.wrap (k:Int)=(k:Int):=wI Z;have hk0:(0:Int)<=(k:Int):=Z;by_cases h69:k<69
 .have f0:=e0 h69;have f1:=e1 h69;have f2:=e2 h69;have f3:=e3 h69;have HF:=Hd (HQ.out _ _ _ _ (λ_=>⟨rfl,rfl,rfl,rfl⟩) (λh=>absurd h69 h));have HST:=Hd (set4 hR0.out (.int .i64 (ar.1:Int)) (.bool ar.2) (.bool nn) (.slice va vn vc));have hk69:(k:Int)<69:=Z;have hk69':¬(69:Int)<=(k:Int):=Z;clear e0 e1 e2 e3 HQ;obtain⟨x,y⟩:=ar;go_wp2_with fail;exact bodyPost_ret (zIz _ _ b _ _ _ _ rfl HST.out) rfl HF.out
 .have HF:=Hd (HQ.out _ _ _ _ (λh=>absurd h h69) (λ_=>⟨rfl,rfl,rfl,rfl⟩));have HST:=Hd (set4 hR0.out (.int .i64 (-1)) (.bool false) (.bool false) (.slice none 0 0));have hk69:(69:Int)<=(k:Int):=Z;clear e0 e1 e2 e3 HQ;go_wp2_with fail;exact bodyPost_ret (zIz _ _ b _ _ _ _ rfl HST.out) rfl HF.out
theorem zVf(k:Nat)(hk:k<256)(w:World) :
  Calls Tryz.prog 26 #[.int .u8 (k:Int)] w (rowPost k w):=by
 have HQ:Hid (∀v w',Below w.heap.size w w'->(k<69->∃vs,v=.agg #[.int .i64 ((arL k).1:Int),.bool (arL k).2,.bool (noneT k),vs]/\Row w' vs (wordsT k).length 1 (strV (wordsT k)))->(¬k<69->v=.agg #[.int .i64 (-1),.bool false,.bool false,.slice none 0 0])->rowPost k w (.returned v) w'):=Hd λv w' h1 h2 h3=>by
  unfold rowPost;refine⟨h1,?_⟩;by_cases hc:k<69
  .rw[iP hc];obtain⟨vs,rfl,h⟩:=h2 hc;exact⟨vs,rfl,h⟩
  .rw[iN hc,h3 hc]
 generalize rowPost k w=Q at *;go_enter Tryz.func26,Tryz.ntmps26;go_upto_region 1 with(fail);refine wp_region_lit ?_;refine jW 84 (rw14 w) Oa Oa ?_;refine wpList_nil ?_;generalize hA:actOf _ _ _ _=A;have hA3:A.tmps.getD 3 undef=.slice (some ⟨(rw13 w).heap.size,0,none⟩) 69 69:=by rw[<-hA];kernel_rfl
 have hA0:A.tmps.getD 0 undef=.int .u8 (k:Int):=by rw[<-hA];kernel_rfl
 have hA2:A.tmps.getD 2 undef=.pointer (some ⟨w.heap.size,0,none⟩):=by rw[<-hA];kernel_rfl
 have hAs:A.tmps.size=97:=by rw[<-hA];kernel_rfl
 have hAd:A.defers=[]:=by rw[<-hA];kernel_rfl
 clear hA;obtain⟨tm,df⟩:=A;simp only[]at hA0 hA2 hA3 hAd hAs;subst hAd;obtain⟨u0,u1,u2,u3,u4,u5,u6,u7,u8,u9,u10,u11,u12,u13,u14,u15,u16,u17,u18,u19,u20,u21,u22,u23,u24,u25,u26,u27,u28,u29,u30,u31,u32,u33,u34,u35,u36,u37,u38,u39,u40,u41,u42,u43,u44,u45,u46,u47,u48,u49,u50,u51,u52,u53,u54,u55,u56,u57,u58,u59,u60,u61,u62,u63,u64,u65,u66,u67,u68,u69,u70,u71,u72,u73,u74,u75,u76,u77,u78,u79,u80,u81,u82,u83,u84,u85,u86,u87,u88,u89,u90,u91,u92,u93,u94,u95,u96,rfl⟩:=frame97 tm hAs;obtain rfl:u0=.int .u8 (k:Int):=hA0;obtain rfl:u2=.pointer (some ⟨w.heap.size,0,none⟩):=hA2;obtain rfl:u3=.slice (some ⟨(rw13 w).heap.size,0,none⟩) 69 69:=hA3;rename_i hK;have hrow:=yDb w k;have hnew:=yDm w k;obtain⟨va,vc,hvs,_⟩:∃va vc,slOf w k=.slice va (wordsT k).length vc/\True:=by
  obtain⟨_,a,c,h,_⟩:=hrow;exact⟨a,c,h,trivial⟩
 refine hK _ _ (yCq _ _ _ _ _ _ _ _ _ _ _ _ _ _ _ _ _ _ _ _ _ _ _ _ _ _ _ _ _ _ _ _ _ _ _ _ _ _ _ _ _ _ _ _ _ _ _ _ _ _ _ _ _ _ _ _ _ _ _ _ _ _ _ _ _ _ _ _ _ _ _ _ _ _ _ _ _ _ _ _ _ _ _ _ _ _ _ _ _ _ _ _ _ _ k hk w.heap.size (rw13 w).heap.size (Nat.ne_of_gt (yGa w)) (rw14 w) (Hd (yFz w)) (arL k) (noneT k) va (wordsT k).length vc (λh=>?_) (λh=>?_) (λh=>?_) (λh=>?_) Q (Hd λx0 x1 x2 x3 h1 h2=>?_))
 .have:=zHd w k 0 h V;rw[Nat.add_zero]at this;exact this
 .exact zHd w k 1 h V
 .exact zHd w k 2 h V
 .rw[zHd w k 3 h V,<-hvs];rfl
 .refine HQ.out _ _ (((((yIi w).setCell (nR _) _).setCell (nR _) _).setCell (nR _) _).setCell (nR _) _) (λh=>?_) (λh=>?_)
  .obtain⟨rfl,rfl,rfl,rfl⟩:=h1 h;rw[hvs]at hrow hnew;exact⟨_,rfl,fH (fH (fH (fH hrow hnew _) hnew _) hnew _) hnew _⟩
  .obtain⟨rfl,rfl,rfl,rfl⟩:=h2 h;rfl
end Go.Proofs.YtfpjdpdmgceciaaGreatDoor
