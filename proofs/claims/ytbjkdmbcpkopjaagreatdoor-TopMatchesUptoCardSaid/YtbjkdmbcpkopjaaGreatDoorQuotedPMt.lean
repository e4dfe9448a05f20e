/- Layer 6 in plain Lean: items, texts in marks, quoting; no program in sight. -/
import Derived.Test.YtbjkdmbcpkopjaaGreatDoorU8bMt
import Derived.Lib.Replace
import Derived.Test.YtbjkdmbcpkopjaaGreatDoorU8Mt
import Derived.Lib.AppendStr
import Derived.Deep.RegionHeldLaw
import Derived.Deep.RegionLaw
import Derived.Deep.QuietTactic
import Derived.BigQuiet
namespace Go.Proofs.YtbjkdmbcpkopjaaGreatDoor
set_option linter.all false

def nums (s:ByteArray):List Int:=s.data.toList.map fun b=>(b.toNat:Int)
theorem zHg (s:ByteArray):strOfNums (nums s)=s:=by
 apply ByteArray.ext;apply Array.ext';rw [strOfNums_data];unfold nums;rw [List.map_map]
 conv=>rhs;rw [← List.map_id s.data.toList]
 apply List.map_congr_left;intro b _;simp
theorem zAm (s:ByteArray):(nums s).length=s.size:=by unfold nums;rw [List.length_map,← zQ]
theorem zHh (l:List Int) (h:∀ x∈l,0≤x∧x<256):nums (strOfNums l)=l:=by
 unfold nums;rw [strOfNums_data,List.map_map]
 conv=>rhs;rw [← List.map_id l]
 apply List.map_congr_left;intro x hx;have:=h x hx;simp only [Function.comp,id];rw [xU _ (by omega)];omega

def num (s:ByteArray) (b:Int):Nat→Nat→Int→Option Int
 | _,0,n=>some n
 | i,c+1,n=>if i<s.size∧0≤base (bt s i)∧base (bt s i)<b then num s b (i+1) c (n*b+base (bt s i)) else none
theorem zRp (r:Int):-1≤base r∧base r<16:=by
 unfold base;split
 ·omega
 ·split
  ·omega
  ·split <;> omega
theorem vY (s:ByteArray) (b:Int) (hb:0<b):∀ (c i:Nat) (n m:Int),0≤n→num s b i c n=some m→0≤m∧m<(n+1)*b ^ c∧i+c≤max i s.size
 | 0,i,n,m,hn,h=>by
  unfold num at h;obtain rfl:=Option.some.inj h;refine ⟨hn,?_,by omega⟩;rw [Int.pow_zero];omega
 | c+1,i,n,m,hn,h=>by
  unfold num at h;split at h
  ·rename_i hc;obtain ⟨h1,h2,h3⟩:=hc;obtain ⟨g1,g2,g3⟩:=vY s b hb c (i+1) _ m (by have:=Int.mul_nonneg hn (Int.le_of_lt hb);omega) h;refine ⟨g1,Int.lt_of_lt_of_le g2 ?_,by omega⟩;rw [Int.pow_succ,Int.mul_comm (b ^ c) b,← Int.mul_assoc];apply Int.mul_le_mul_of_nonneg_right
   ·rw [Int.add_mul];omega
   ·exact Int.le_of_lt (Int.pow_pos hb)
  ·cases h

def kL:List Nat:=[97,98,102,110,114,116,118,92]
def escSays:List Int:=[7,8,12,10,13,9,11,92]
def small (n:Int) (mark:Nat):List Int:=if mark=34 then [n] else formZ n
def esc (s:ByteArray) (i mark:Nat):Option (Nat×List Int) :=
 if s.size≤i+1 then none
 else if kL.idxOf (bt s (i+1))<8 then some (2,[escSays.getD (kL.idxOf (bt s (i+1))) 0])
 else if bt s (i+1)=mark then some (2,[(bt s (i+1):Int)])
 else if bt s (i+1)=120 then (num s 16 (i+2) 2 0).map fun n=>(4,small n mark)
 else if bt s (i+1)=117∨bt s (i+1)=85 then
  (num s 16 (i+2) (if bt s (i+1)=85 then 8 else 4) 0).bind fun n=>if may n then some (2+(if bt s (i+1)=85 then 8 else 4),formZ n) else none
 else (num s 8 (i+1) 3 0).bind fun n=>if 255<n then none else some (4,small n mark)
def item (s:ByteArray) (i mark:Nat):Option (Nat×List Int) :=
 if bt s i=92 then esc s i mark
 else if bt s i=10 then none
 else if mark=34 then some (1,[(bt s i:Int)])
 else if (rd s i).2=0 then none
 else some ((rd s i).2,nums (s.extract i (i+(rd s i).2)))
theorem zTg {s:ByteArray} {i mark n:Nat} {l:List Int} (h:esc s i mark=some (n,l)):2≤n∧i+n≤s.size:=by
 unfold esc at h;split at h
 ·cases h
 ·split at h
  ·cases h;omega
  ·split at h
   ·cases h;omega
   ·split at h
    ·cases hn:num s 16 (i+2) 2 0 with
     | none=>rw [hn] at h;cases h
     | some v =>
      rw [hn] at h;have:=vY s 16 (by omega) 2 (i+2) 0 v (by omega) hn;cases h;omega
    ·split at h
     ·cases hn:num s 16 (i+2) (if bt s (i+1)=85 then 8 else 4) 0 with
      | none=>rw [hn] at h;cases h
      | some v =>
       rw [hn] at h;have:=vY s 16 (by omega) _ (i+2) 0 v (by omega) hn;simp only [Option.bind_some] at h;split at h
       ·cases h;split at this <;> simp_all <;> omega
       ·cases h
     ·cases hn:num s 8 (i+1) 3 0 with
      | none=>rw [hn] at h;cases h
      | some v =>
       rw [hn] at h;have:=vY s 8 (by omega) 3 (i+1) 0 v (by omega) hn;simp only [Option.bind_some] at h;split at h
       ·cases h
       ·cases h;omega
theorem jZ {s:ByteArray} {i mark n:Nat} {l:List Int} (hi:i<s.size) (h:item s i mark=some (n,l)):1≤n∧i+n≤s.size:=by
 unfold item at h;split at h
 ·have:=zTg h;omega
 ·split at h
  ·cases h
  ·split at h
   ·cases h;omega
   ·split at h
    ·cases h
    ·rename_i h0;cases h
     have:=jI s i;omega
def body (s:ByteArray) (i:Nat):Option (Nat×List Int) :=
 if hi:i<s.size then
  if bt s i=34 then some (i+1,[])
  else match h:item s i 34 with
   | none=>none
   | some (n,l)=>(body s (i+n)).map fun p=>(p.1,l++p.2)
 else none
termination_by s.size-i
decreasing_by have:=jZ hi h;omega
def raw (s:ByteArray) (i:Nat):Option (Nat×List Int) :=
 if i<s.size then
  if bt s i=96 then some (i+1,[])
  else (raw s (i+1)).map fun p=>(p.1,(if bt s i=13 then [] else [(bt s i:Int)])++p.2)
 else none
termination_by s.size-i
def single (s:ByteArray) (i:Nat):Option (Nat×List Int) :=
 if i<s.size then
  if bt s i=39 then none
  else match item s i 39 with
   | none=>none
   | some (n,l)=>if i+n<s.size∧bt s (i+n)=39 then some (i+n+1,l) else none
 else none
def begunAt (s:ByteArray) (i:Nat):Int×Int×ByteArray×Int :=
 if bt s i=96 then match raw s (i+1) with
  | none=>(0,0,ByteArray.empty,4)
  | some (e,l)=>(7,e,strOfNums l,0)
 else if bt s i=34 then match body s (i+1) with
  | none=>(0,0,ByteArray.empty,4)
  | some (e,l)=>(7,e,strOfNums l,0)
 else match single s (i+1) with
  | none=>(0,0,ByteArray.empty,4)
  | some (e,l)=>(6,e,strOfNums l,0)
def isMark (b:Nat):Bool:=b == 39 || b == 34 || b == 96
@[irreducible] def begun (s:ByteArray) (at':Int):Int×Int×ByteArray×Int :=
 if at'<0∨(s.size:Int)≤at' then (0,0,ByteArray.empty,15)
 else if isMark (bt s at'.toNat) then begunAt s at'.toNat else (0,0,ByteArray.empty,15)
@[irreducible] def value (s:ByteArray):ByteArray×Int :=
 if (begun s 0).2.2.2=0∧(begun s 0).2.1=s.size then ((begun s 0).2.2.1,0) else (ByteArray.empty,4)
theorem yE (s:ByteArray) (a b:Nat):(s.extract a b).data.toList=(s.data.toList.drop a).take (b-a):=by
 rw [ByteArray.data_extract,Array.toList_extract,List.extract]
theorem zZh (c:UInt8) (t:List UInt8):Lib.index (c::t) [c]=0:=by
 unfold Lib.index;rw [iP (by simp [List.isPrefixOf])]
theorem zZi (b c:UInt8) (t:List UInt8) (h:b≠c):Lib.index (b::t) [c]=if Lib.index t [c] == -1 then -1 else Lib.index t [c]+1:=by
 rw [Lib.index,iN];simp [List.isPrefixOf,Ne.symm h]
theorem jK (c:UInt8):∀ (l:List UInt8) (k:Nat),l.count c=k→Lib.replaceK [c] [] k l=l.filter fun x=>x != c
 | [],k,h=>by
  obtain rfl:k=0:=by simpa using h.symm
  rfl
 | b::t,k,h=>by
  by_cases hb:b=c
  ·subst hb;rw [List.count_cons_self] at h;subst h;rw [Lib.replaceK_hit [b] [] _ (b::t) 0 (zZh b t)];simp only [List.take_zero,List.nil_append,lC,lN,Nat.zero_add,List.drop_one,List.tail_cons];rw [jK b t _ rfl];simp
  ·rw [List.count_cons_of_ne hb] at h;have ih:=jK c t k h;cases k with
   | zero =>
    have h2:(b::t).filter (fun x=>x != c)=b::t:=by
     rw [List.filter_eq_self];intro x hx;rcases List.mem_cons.1 hx with rfl | hx
     ·simp [hb]
     ·have:=List.count_eq_zero.1 h;simp only [bne_iff_ne,ne_eq];rintro rfl;exact this hx
    rw [h2];rfl
   | succ k =>
    obtain ⟨i,hi⟩:=Lib.index_of_count (s:=t) (old:=[c]) (by rw [Lib.count_one];omega);have h1:Lib.index (b::t) [c]=(i+1:Nat):=by
     rw [zZi b c t hb,hi,iN (by simp)];omega
    rw [Lib.replaceK_hit [c] [] k (b::t) (i+1) h1];rw [Lib.replaceK_hit [c] [] k t i hi] at ih;simp only [List.take_succ_cons,List.append_nil,lC,lN,Nat.zero_add,List.cons_append,List.drop_succ_cons] at ih ⊢;rw [ih,List.filter_cons_of_pos (by simp [hb])]
theorem zCo (c:UInt8) (l:List UInt8):Lib.replaceAll l [c] []=l.filter fun x=>x != c:=by
 unfold Lib.replaceAll Lib.replace;rw [iN (by simp)];unfold Lib.replaceNum;rw [iP (Or.inl (by decide)),Lib.count_one];exact jK c l _ rfl

def numsL (l:List UInt8):List Int:=l.map fun b=>(b.toNat:Int)
theorem zJz (s:ByteArray):∀ (l:List UInt8) (i:Nat),s.data.toList.drop i=l →
  raw s i=if Lib.indexByte l 96<0 then none else some (i+(Lib.indexByte l 96).toNat+1,numsL ((l.take (Lib.indexByte l 96).toNat).filter fun x=>x != 13))
 | [],i,h=>by
  have hlen:=congrArg List.length h;rw [List.length_drop,← zQ] at hlen;unfold raw;rw [iN (by simp at hlen;omega),iP (by decide)]
 | b::t,i,h=>by
  have hlen:=congrArg List.length h;rw [List.length_drop,← zQ] at hlen;have hi:i<s.size:=by simp at hlen;omega
  have hb:bt s i=b.toNat:=by
   unfold bt;rw [get!_list];have h1:(s.data.toList.drop i)[0]?=some b:=by rw [h];rfl
   rw [List.getElem?_drop,Nat.add_zero] at h1;rw [gD,h1];rfl
  have ht:s.data.toList.drop (i+1)=t:=by
   have:(s.data.toList.drop i).drop 1=t:=by rw [h];rfl
   rwa [List.drop_drop] at this
  have ih:=zJz s t (i+1) ht;unfold raw;rw [iP hi,hb,ih];have hge:=Lib.indexByte_ge t 96;by_cases h96:b=96
  ·subst h96;rw [iP (by decide)];have h0:Lib.indexByte (96::t) 96=0:=by unfold Lib.indexByte;rw [iP (by decide)]
   rw [h0,iN (by decide)];simp [numsL]
  ·have hn:b.toNat≠96:=fun e=>h96 (UInt8.toNat_inj.1 (by rw [e];rfl))
   rw [iN hn];have h0:Lib.indexByte (b::t) 96=if Lib.indexByte t 96 == -1 then -1 else Lib.indexByte t 96+1:=by
    rw [Lib.indexByte,iN (by simpa using h96)]
   rw [h0];by_cases hm:Lib.indexByte t 96=-1
   ·rw [hm];rfl
   ·have e2:(if Lib.indexByte t 96 == -1 then (-1:Int) else Lib.indexByte t 96+1)=Lib.indexByte t 96+1:=by rw [iN (by simpa using hm)]
    have hl1:¬ (Lib.indexByte t 96<0):=by omega
    have hl2:¬ (Lib.indexByte t 96+1<0):=by omega
    rw [e2,iN hl1,iN hl2];obtain ⟨k,hk⟩:∃ k:Nat,Lib.indexByte t 96=k:=⟨_,(Int.toNat_of_nonneg (by omega)).symm⟩;rw [hk];have e3:((k:Int)+1).toNat=k+1:=by omega
    rw [e3,Int.toNat_natCast];simp only [Option.map_some,List.take_succ_cons]
    congr 2
    ·omega
    ·unfold numsL;by_cases h13:b=13
     ·subst h13;simp
     ·have hn13:b.toNat≠13:=fun e=>h13 (UInt8.toNat_inj.1 (by rw [e];rfl))
      rw [iN hn13,List.filter_cons_of_pos (by simpa using h13)];rfl
theorem zFf (l:List UInt8):strOfNums (numsL l)=⟨l.toArray⟩:=by
 have:=zHg ⟨l.toArray⟩;unfold nums at this
 simpa [numsL] using this
theorem zZj (s:ByteArray) (i:Nat):raw s i=if Lib.indexByte (s.extract i s.size).data.toList 96<0 then none else
  some (i+(Lib.indexByte (s.extract i s.size).data.toList 96).toNat+1,numsL (Lib.replaceAll (s.extract i (i+(Lib.indexByte (s.extract i s.size).data.toList 96).toNat)).data.toList [13] [])):=by
 have e:(s.extract i s.size).data.toList=s.data.toList.drop i:=by
  rw [yE,List.take_of_length_le];rw [List.length_drop,← zQ];omega
 rw [zJz s _ i rfl,e,zCo,yE,Nat.add_sub_cancel_left]
theorem zAn (c:UInt8):∀ l:List UInt8,Lib.indexByte l c=-1∨Lib.indexByte l c<l.length
 | []=>Or.inl rfl
 | b::t=>by
  have ih:=zAn c t;unfold Lib.indexByte;by_cases h:(b == c)=true
  ·rw [iP h];right;simp only [lC];omega
  ·rw [iN h];by_cases h2:(Lib.indexByte t c == -1)=true
   ·rw [iP h2];exact Or.inl rfl
   ·rw [iN h2];right;simp only [lC];have h3:Lib.indexByte t c≠-1:=by simpa using h2
    omega
theorem yM (s y:ByteArray) (i:Nat) (h:i<s.size):bt (s++y) i=bt s i:=by unfold bt;rw [get!_left _ _ _ h]
theorem zTh (m y:ByteArray) (i:Nat) (h0:(rd (m++y) i).2≠0) (h:i+(rd (m++y) i).2≤m.size):rd m i=rd (m++y) i:=by
 have hi:i<(m++y).size:=by rw [ByteArray.size_append];omega
 rcases kJ (m++y) i hi with ⟨hc,_⟩ | ⟨h1,h4,hn,hmay,hform,_⟩
 ·exact absurd (by rw [hc]) h0
 ·generalize hq:rd (m++y) i=q at *;obtain ⟨r,n⟩:=q;simp only [] at *;have hsz:(form r).size=n:=by rw [hform,ByteArray.size_extract];omega
  have hr:=zKn m i r hmay (by omega) (fun k hk=>by
   rw [hform,get!_extract (m++y) i (i+n) k (by omega) hn,get!_left m y (i+k) (by omega)])
  rw [hr,hsz,Int.toNat_natCast]
theorem zIx (s:ByteArray):s.extract 0 s.size=s:=by
 apply ByteArray.ext;apply Array.ext';rw [yE,List.drop_zero,List.take_of_length_le (by rw [← zQ];omega)]
theorem zRq (s:ByteArray) (k:Nat) (h:k≤s.size):s.extract 0 k++s.extract k s.size=s:=by
 rw [zAu s 0 k s.size (Nat.zero_le _) h,zIx]
set_option maxRecDepth 100000
set_option maxHeartbeats 32000000
open Go.RowKit
structure RS (w:World) (b:Nat) (s:ByteArray) (i mark:Int) (l:List Int) (bad:Bool):Prop where
 tabs:Tabs w
 lt1:1<b
 lt2:2<b
 row:∃ out,w.heap[b]?=some (.cells #[.string s,.int .i64 i,.int .u8 mark,out,.bool bad] 172 (0,0))∧w.ownsRow (b+1) 5 1 out l.length (l.map (Value.int .u8))

theorem Tabs.same {w w':World} (h:Tabs w) (h1:w'.heap[1]?=w.heap[1]?) (h2:w'.heap[2]?=w.heap[2]?) (hs:w.heap.size≤w'.heap.size):Tabs w':=by
 obtain ⟨⟨g1,g2⟩,h3,h4⟩:=h;refine ⟨⟨fun c hc=>?_,fun i hi=>⟨?_,?_⟩⟩,Nat.lt_of_lt_of_le h3 hs,Nat.lt_of_lt_of_le h4 hs⟩
 ·rw [World.cell?_of_block h1];exact g1 c hc
 ·rw [World.cell?_of_block h2];exact (g2 i hi).1
 ·rw [World.cell?_of_block h2];exact (g2 i hi).2
theorem zAk {w w':World} {B:Nat} {v:Value} {e:TypeId} {size n:Nat} {xs:List Value} (h:w.ownsRow B e size v n xs) (hb:∀ g,B≤g→g<w.heap.size→w'.heap[g]?=w.heap[g]?):w'.ownsRow B e size v n xs:=by
 obtain ⟨h1,h2⟩:=h;refine ⟨h1,?_⟩;rcases h2 with h2 | ⟨g,cap,cur,hv,hg,hh,r⟩
 ·exact Or.inl h2
 ·exact Or.inr ⟨g,cap,cur,hv,hg,by rw [hb g hg (zG hh)];exact hh,r⟩
theorem jJ {P:Program} {ops:Array Oper} {o:Oper} {a:Act} {w:World} {K:Act→World→Prop} {Q:Exit→Act→World→Prop} {E:Prop}
  (hgd:o.guard=none) (sl x:Operand) (t u:TypeId) (ho:o.op=.call { callee:=.builtin .append,args:=#[sl,x],argTypes:=#[t,u] })
  (base:Nat) (e:TypeId) (ht:P.underlying t=some (.slice e)) (hu:P.underlying u=some .string) (hinfo:(P.info? e).map (fun i=>(i.zero,i.size,i.bytes))=some (some (.int .u8 0),1,1))
  (v:Value) (n:Nat) (xs:List Value) (hs:a.eval sl=v) (hown:w.ownsRow base e 1 v n xs) (s:ByteArray) (hx:a.eval x=.string s)
  (hbytes:n+s.size≤140737488355328) (hbase:base≤w.heap.size)
  (h:∀ v' w',w'.ownsRow base e 1 v' (n+s.size) (xs++Lib.strCells s)→w.grownBy w' v.ownBlock→K (a.put o.dst v') w') :
  if Region.wanted o (yielded ops a.tmps)=true then Oper.wp P o a w K Q else E:=by
 obtain ⟨i,hi,hz0,hz1,hz2⟩:=info_parts hinfo;have hw:Region.wanted o (yielded ops a.tmps)=true:=by simp [Region.wanted,hgd]
 rw [iP hw];obtain ⟨v',w',hr,h2,h3,h4⟩:=Lib.run_append_own_string (P:=P) w base t u o.type e i ht hu hi hz0 hz1 hz2 v n xs hown s (by unfold maxLen;omega) hbytes hbase;unfold Oper.wp execOp;simp only [ho,resolve,invoke,builtin,Sem.run_bind,Sem.run_pure,Result.andThen_ok,List.map_toArray,List.map_cons,List.map_nil,hs,hx,hr];exact h v' w' h2 h3
section
variable {w:World} {b:Nat} {s:ByteArray} {i mark:Int} {l:List Int} {bad:Bool}
theorem RS.at' (h:RS w b s i mark l bad) (j:Int):RS (w.setCell ⟨b,1,none⟩ (.int .i64 j)) b s j mark l bad:=by
 obtain ⟨ht,h1,h2,out,hh,ho⟩:=h;refine ⟨ht.same (heap_setCell_other _ _ _ _ (Nat.ne_of_lt h1)) (heap_setCell_other _ _ _ _ (Nat.ne_of_lt h2)) (by simp [World.setCell]),h1,h2,out,?_,?_⟩
 ·rw [heap_setCell_same w b 1 _ _ _ hh];rfl
 ·exact zAk ho fun g hg _=>heap_setCell_other _ _ _ _ (by show g≠b;omega)
theorem RS.mark' (h:RS w b s i mark l bad) (j:Int):RS (w.setCell ⟨b,2,none⟩ (.int .u8 j)) b s i j l bad:=by
 obtain ⟨ht,h1,h2,out,hh,ho⟩:=h;refine ⟨ht.same (heap_setCell_other _ _ _ _ (Nat.ne_of_lt h1)) (heap_setCell_other _ _ _ _ (Nat.ne_of_lt h2)) (by simp [World.setCell]),h1,h2,out,?_,?_⟩
 ·rw [heap_setCell_same w b 2 _ _ _ hh];rfl
 ·exact zAk ho fun g hg _=>heap_setCell_other _ _ _ _ (by show g≠b;omega)
theorem RS.bad' (h:RS w b s i mark l bad) (c:Bool):RS (w.setCell ⟨b,4,none⟩ (.bool c)) b s i mark l c:=by
 obtain ⟨ht,h1,h2,out,hh,ho⟩:=h;refine ⟨ht.same (heap_setCell_other _ _ _ _ (Nat.ne_of_lt h1)) (heap_setCell_other _ _ _ _ (Nat.ne_of_lt h2)) (by simp [World.setCell]),h1,h2,out,?_,?_⟩
 ·rw [heap_setCell_same w b 4 _ _ _ hh];rfl
 ·exact zAk ho fun g hg _=>heap_setCell_other _ _ _ _ (by show g≠b;omega)
theorem RS.drew (h:RS w b s i mark l bad):RS w.drew b s i mark l bad:=⟨h.tabs,h.lt1,h.lt2,h.row⟩
theorem RS.drewN (h:RS w b s i mark l bad) (n:Nat):RS (w.drewN n) b s i mark l bad:=⟨h.tabs,h.lt1,h.lt2,h.row⟩
theorem RS.below (h:RS w b s i mark l bad) {w':World} (hb:Below w.heap.size w w'):RS w' b s i mark l bad:=by
 obtain ⟨ht,h1,h2,out,hh,ho⟩:=h;exact ⟨ht.below hb,h1,h2,out,keeps hb hh,zY ho hb⟩
theorem RS.lt (h:RS w b s i mark l bad):b<w.heap.size:=by obtain ⟨_,_,_,out,hh,_⟩:=h;exact zG hh
theorem RS.c0 (h:RS w b s i mark l bad):w.cell? ⟨b,0,none⟩=some (.string s):=by
 obtain ⟨_,_,_,out,hh,_⟩:=h;simp [World.cell?,hh]
theorem RS.c1 (h:RS w b s i mark l bad):w.cell? ⟨b,1,none⟩=some (.int .i64 i):=by
 obtain ⟨_,_,_,out,hh,_⟩:=h;simp [World.cell?,hh]
theorem RS.c2 (h:RS w b s i mark l bad):w.cell? ⟨b,2,none⟩=some (.int .u8 mark):=by
 obtain ⟨_,_,_,out,hh,_⟩:=h;simp [World.cell?,hh]
theorem RS.c4 (h:RS w b s i mark l bad):w.cell? ⟨b,4,none⟩=some (.bool bad):=by
 obtain ⟨_,_,_,out,hh,_⟩:=h;simp [World.cell?,hh]
theorem RS.c3 (h:RS w b s i mark l bad):∃ out,w.cell? ⟨b,3,none⟩=some out∧w.ownsRow (b+1) 5 1 out l.length (l.map (Value.int .u8)):=by
 obtain ⟨_,_,_,out,hh,ho⟩:=h;exact ⟨out,by simp [World.cell?,hh],ho⟩
theorem RS.fz (h:RS w b s i mark l bad) (k:Nat):w.frozen? ⟨b,k,none⟩=false:=by
 obtain ⟨_,_,_,out,hh,_⟩:=h;simp [World.frozen?,hh]
theorem RS.grew (h:RS w b s i mark l bad) {w1 w':World} (hb:Below w.heap.size w w1) {out out':Value} (hc:w.cell? ⟨b,3,none⟩=some out) (hg:w1.grownBy w' out.ownBlock) {l':List Int} {xs:List Value} {n:Nat} (hn:n=l'.length) (hx:xs=l'.map (Value.int .u8))
  (ho:w'.ownsRow (b+1) 5 1 out' n xs):RS (w'.setCell ⟨b,3,none⟩ out') b s i mark l' bad:=by
 subst hn;subst hx;have hlt:=h.lt;obtain ⟨ht,h1,h2,out0,hh,ho0⟩:=h;obtain rfl:out0=out:=by
  have:w.cell? ⟨b,3,none⟩=some out0:=by simp [World.cell?,hh]
  rw [this] at hc;exact Option.some.inj hc
 have hsz:=hb.size;have hblk:∀ k,k≤b→w'.heap[k]?=w.heap[k]?:=by
  intro k hk;rw [hg.block k (by omega) ?_,hb.block k (by omega)];intro e;have:=(ho0.lt k e.symm).1;omega
 have hs':=hg.size;refine ⟨ht.same ?_ ?_ (by simp [World.setCell];omega),h1,h2,out',?_,?_⟩
 ·rw [heap_setCell_other _ _ _ _ (Nat.ne_of_lt h1)];exact hblk _ (by omega)
 ·rw [heap_setCell_other _ _ _ _ (Nat.ne_of_lt h2)];exact hblk _ (by omega)
 ·have hh':=(hblk b (nR _)).trans hh;rw [heap_setCell_same w' b 3 _ _ _ hh'];rfl
 ·exact zAk ho fun g hg _=>heap_setCell_other _ _ _ _ (by show g≠b;omega)
theorem RS.grew_cell (h:RS w b s i mark l bad) {w1 w':World} (hb:Below w.heap.size w w1) {out:Value} (hc:w.cell? ⟨b,3,none⟩=some out) (hg:w1.grownBy w' out.ownBlock):w'.cell? ⟨b,3,none⟩=some out∧w'.frozen? ⟨b,3,none⟩=false:=by
 have hlt:=h.lt;have hz:=h.fz 3;obtain ⟨ht,h1,h2,out0,hh,ho0⟩:=h;obtain rfl:out0=out:=by
  have:w.cell? ⟨b,3,none⟩=some out0:=by simp [World.cell?,hh]
  rw [this] at hc;exact Option.some.inj hc
 have hsz:=hb.size;have hblk:w'.heap[b]?=w.heap[b]?:=by
  rw [hg.block b (by omega) ?_,hb.block b (by omega)];intro e;have:=(ho0.lt b e.symm).1;omega
 exact ⟨by rw [World.cell?_of_block hblk];exact hc,by rw [World.frozen?_of_block hblk];exact hz⟩
theorem RS.grew_below (h:RS w b s i mark l bad) {w0 w1 w':World} (h0:Below b w0 w) (hb:Below w.heap.size w w1) {out out':Value} (hc:w.cell? ⟨b,3,none⟩=some out) (hg:w1.grownBy w' out.ownBlock):Below b w0 (w'.setCell ⟨b,3,none⟩ out'):=by
 have hlt:=h.lt;obtain ⟨ht,h1,h2,out0,hh,ho0⟩:=h;obtain rfl:out0=out:=by
  have:w.cell? ⟨b,3,none⟩=some out0:=by simp [World.cell?,hh]
  rw [this] at hc;exact Option.some.inj hc
 have hsz:=hb.size;refine Below.setCell ?_ (nR b) _;refine (h0.trans (hb.mono (by omega))).grown hg (by omega) fun k hk=>?_;have:=(ho0.lt k hk).1;omega
end

theorem bdrewN {B:Nat} {a w:World} (h:Below B a w) (n:Nat):Below B a (w.drewN n):=⟨h.os,h.tape,h.output,h.size,h.block⟩
theorem zZc (s:ByteArray) (bs:Int) (i c:Nat) (n:Int) (h:i<s.size) (h0:0≤base (bt s i)) (h1:base (bt s i)<bs):num s bs i (c+1) n=num s bs (i+1) c (n*bs+base (bt s i)):=by
 rw [num,iP ⟨h,h0,h1⟩]
theorem zZd (s:ByteArray) (bs:Int) (i c:Nat) (n:Int) (h:¬ (i<s.size∧0≤base (bt s i)∧base (bt s i)<bs)):num s bs i (c+1) n=none:=by
 rw [num,iN h]
@[irreducible] def numPost (s:ByteArray) (b i:Nat) (mark:Int) (l:List Int) (bs:Int) (count:Nat) (w0:World) (e:Ending) (w':World):Prop :=
 Below b w0 w'∧((∃ n,num s bs i count 0=some n∧e=.returned (.int .i64 n)∧RS w' b s (i+count:Nat) mark l false)∨(num s bs i count 0=none∧e=.returned (.int .i64 0)∧∃ j,RS w' b s j mark l true))
theorem kX (s:ByteArray) (b i:Nat) (mark:Int) (l:List Int) (bs:Int) (hbs:bs=8∨bs=16) (count:Nat) (hcnt:count≤8) (w0:World) (hR:RS w0 b s i mark l false) (hs:s.size≤140737488355328) (hi:i≤s.size) :
  Calls Tryz.prog 220 #[.pointer (some ⟨b,0,none⟩),.int .i64 count,.int .i64 bs] w0 (numPost s b i mark l bs count w0):=by
 have HQ:Hid (∀ e w',Below b w0 w'∧((∃ n,num s bs i count 0=some n∧e=.returned (.int .i64 n)∧RS w' b s (i+count:Nat) mark l false)∨(num s bs i count 0=none∧e=.returned (.int .i64 0)∧∃ j,RS w' b s j mark l true))→numPost s b i mark l bs count w0 e w') :=
  Hd fun e w' h=>by unfold numPost;exact h
 generalize numPost s b i mark l bs count w0=Q at *;have HB:=Hd zFs;have HR:=Hd hR;clear hR;go_enter Tryz.func220,Tryz.ntmps220;go_wp2_with fail;go_loopw [7,10] (fun n k wr=>∃ (kk:Nat) (nn:Int),kk≤count∧n=.int .i64 nn∧k=.int .i64 kk∧0≤nn∧nn<16 ^ kk∧i+kk≤s.size∧num s bs i count 0=num s bs (i+kk) (count-kk) nn∧Below b w0 wr∧RS wr b s (i+kk:Nat) mark l false) (fun _ k _=>count-(intOf k).toNat)
 case atStart=>exact ⟨0,0,Nat.zero_le _,rfl,rfl,by omega,by omega,by omega,rfl,bR _ _,HR.out⟩
 case round =>
  obtain ⟨k,n,hk,rfl,rfl,hn0,hn1,hik,hnum,hb,hr⟩:=hrel;have c0:=hr.c0;have c1:=hr.c1;have z1:=hr.fz 1;have z4:=hr.fz 4;have HN:=Hd hnum;have HRR:=Hd hr;clear hnum hr;by_cases hlt:k<count
  ·have hkl:(k:Int)<count:=by omega
   by_cases hp:i+k<s.size
   ·have hpl:((i+k:Nat):Int)<s.size:=by omega
    have hp0:(0:Int)≤((i+k:Nat):Int):=by omega
    generalize hW:i+k=p at *;have hw:IntKind.i32.wrap ((s[p]'hp).toNat:Int)=(bt s p:Int):=by
     rw [xC s p hp];have:=yQ s p;unfold IntKind.wrap;simp [IntKind.signed,IntKind.bits];omega
    have hbt:=yQ s p;have hyes:=zZc s bs p (count-k-1) n hp;have hno:=zZd s bs p (count-k-1) n;have hrange:=zRp (bt s p);have C:=fun w=>zFs (bt s p) (by omega) w
    generalize hx:base (bt s p)=x at *;generalize bt s p=c at *;have HX:=Hd hx;have HC:=Hd C;have HY:=Hd hyes;have HNO:=Hd hno;clear hx C hyes hno;go_wp2_with fail;go_quiet (fail);have hr1:=HRR.out.drewN nq;have hb1:=bdrewN hb nq;generalize wr.drewN nq=w1 at *;have c0:=hr1.c0;have c1:=hr1.c1;have HR1:=Hd hr1;clear hr1;go_wp2_with fail;have HC':∀ n,Calls Tryz.prog 229 #[.int .i32 (c:Int)] (w1.drewN n) fun e w''=>e=.returned (.int .i64 x)∧∃ m,w''=w1.drewN m:=fun n=>Calls.quiet_of_same ((HC.out _).mono fun e w' h=>⟨h.1,h.2.symm⟩)
    have HCC:=Hd HC';clear HC';go_quiet (exact HCC.out _);have hr2:=HR1.out.drewN nq;have hb2:=bdrewN hb1 nq;generalize w1.drewN nq=w2 at *;have c1:=hr2.c1;have z1:=hr2.fz 1;have z4:=hr2.fz 4;have c4:=hr2.c4;have HR2:=Hd hr2;clear hr2 HR1 hb1;have hbad:∀ (hx:x<0∨bs≤x),Q (.returned (.int .i64 0)) (w2.setCell ⟨b,4,none⟩ (.bool true)):=fun hx=>by
     refine HQ.out _ _ ⟨hb2.setCell (by exact nR b) _,Or.inr ⟨?_,rfl,_,HR2.out.bad' true⟩⟩;rw [HN.out,show count-k=count-k-1+1 by omega];exact HNO.out (by omega)
    have HBad:=Hd hbad;clear hbad;have hgood:0≤x→x<bs→num s bs i count 0=num s bs (i+(k+1)) (count-(k+1)) (n*bs+x):=fun h1 h2=>by
     rw [HN.out,show count-k=count-k-1+1 by omega,HY.out h1 h2]
     congr 1 <;> omega
    have HGood:=Hd hgood;clear hgood HN HY HNO;by_cases g0:x<0
    ·go_wp2_with fail;show Q (.returned (.int .i64 0)) _;exact HBad.out (Or.inl g0)
    ·by_cases g1:bs≤x
     ·go_wp2_with fail;show Q (.returned (.int .i64 0)) _;exact HBad.out (Or.inr g1)
     ·have hpow:(16:Int) ^ k≤16 ^ 7:=by
       have:16 ^ k≤16 ^ 7:=Nat.pow_le_pow_right (by omega) (by omega)
       exact_mod_cast this
      have hpow1:(16:Int) ^ (k+1)=16 ^ k*16:=Int.pow_succ _ _;have hm1:0≤n*bs∧n*bs≤n*16:=by rcases hbs with rfl | rfl <;> omega
      have hm2:n*bs+x<16 ^ (k+1):=by omega
      have hw1:IntKind.i64.wrap (n*bs)=n*bs:=by unfold IntKind.wrap;simp [IntKind.signed,IntKind.bits];omega
      have hw2:IntKind.i64.wrap (n*bs+x)=n*bs+x:=by unfold IntKind.wrap;simp [IntKind.signed,IntKind.bits];omega
      have hm3:0≤n*bs+x:=by omega
      have hm4:n*bs+x<16 ^ 9:=by omega
      generalize hmul:n*bs=m at *;go_wp2_with fail;go_roundw
      case rel=>exact ⟨k+1,m+x,by omega,by go_num,by go_num,hm3,hm2,by omega,HGood.out (by omega) (by omega),hb2.setCell (by exact nR b) _,by
       have:=HR2.out.at' (i+(k+1):Nat);have e:(p:Int)+1=((i+(k+1):Nat):Int):=by omega
       rw [e];exact this⟩
      case measure=>simp [intOf];omega
   ·have hpl:(s.size:Int)≤((i+k:Nat):Int):=by omega
    have c4:=HRR.out.c4;have hno:=zZd s bs (i+k) (count-k-1) n;have HNO:=Hd hno;clear hno;generalize hW:i+k=p at *;go_wp2_with fail;go_quiet (fail);have hr1:=HRR.out.drewN nq;have hb1:=bdrewN hb nq;generalize wr.drewN nq=w1 at *;have c4:=hr1.c4;have z4:=hr1.fz 4;have HR1:=Hd hr1;clear hr1;have h99:bs≤99:=by omega
    go_wp2_with fail;show Q (.returned (.int .i64 _)) _;refine HQ.out _ _ ⟨hb1.setCell (by exact nR b) _,Or.inr ⟨?_,rfl,_,HR1.out.bad' true⟩⟩;rw [HN.out,show count-k=count-k-1+1 by omega];exact HNO.out (by omega)
  ·have hkl:(count:Int)≤k:=by omega
   obtain rfl:k=count:=by omega
   go_wp2_with fail;show Q (.returned (.int .i64 _)) _;refine HQ.out _ _ ⟨hb,Or.inl ⟨n,?_,rfl,HRR.out⟩⟩;rw [HN.out,Nat.sub_self,num]

theorem zBm (s:ByteArray):Lib.strCells s=(nums s).map (Value.int .u8):=by
 unfold Lib.strCells nums;rw [List.map_map];rfl
theorem zVf (r:Int):nums (form r)=formZ r:=by
 unfold form;apply zHh;intro x hx;unfold formZ at hx;by_cases hm:may r=false
 ·rw [iP hm] at hx;cases hx
 ·have hm':=(xL r).1 (by simpa using hm);rw [iN hm] at hx
  repeat' split at hx
  all_goals (simp at hx;omega)
theorem zDn (r:Int):(formZ r).length≤4:=by
 unfold formZ;by_cases h:may r=false
 ·rw [iP h];simp
 ·rw [iN h];by_cases h1:r<128
  ·rw [iP h1];simp
  ·rw [iN h1];by_cases h2:r<2048
   ·rw [iP h2];simp
   ·rw [iN h2];by_cases h3:r<65536
    ·rw [iP h3];simp
    ·rw [iN h3];simp
theorem zRm (r:Int):form r=ByteArray.empty↔may r=false:=by
 constructor
 ·intro h;by_cases hm:may r=true
  ·have:=yAq hm;rw [h] at this;simp at this
  ·simpa using hm
 ·exact zKm
theorem kY:(Tryz.prog.info? 5).map (fun i=>(i.zero,i.size,i.bytes))=some (some (.int .u8 0),1,1):=by kernel_rfl
def codeZ (n:Int) (char:Bool) (mark:Int):Option (List Int):=if char=false∧mark=34 then some [n % 256] else if may n then some (formZ n) else none
@[irreducible] def codePost (s:ByteArray) (b:Nat) (i mark:Int) (l:List Int) (bad:Bool) (n:Int) (char:Bool) (w0:World) (e:Ending) (w':World):Prop :=
 Below b w0 w'∧e=.returned (.tuple #[])∧match codeZ n char mark with
  | some x=>RS w' b s i mark (l++x) bad
  | none=>RS w' b s i mark l true
theorem xG (s:ByteArray) (b:Nat) (i mark:Int) (l:List Int) (bad:Bool) (n:Int) (hn:0≤n∧n<4294967296) (char:Bool) (w0:World) (hR:RS w0 b s i mark l bad) (hl:l.length≤140737488355000) :
  Calls Tryz.prog 219 #[.pointer (some ⟨b,0,none⟩),.int .i64 n,.bool char] w0 (codePost s b i mark l bad n char w0):=by
 have HQ:Hid (∀ e w',Below b w0 w'→e=.returned (.tuple #[])→(∀ x,codeZ n char mark=some x→RS w' b s i mark (l++x) bad)→(codeZ n char mark=none→RS w' b s i mark l true)→codePost s b i mark l bad n char w0 e w') :=
  Hd fun e w' h1 h2 h3 h4=>by
   unfold codePost;refine ⟨h1,h2,?_⟩;cases hz:codeZ n char mark with
   | some x=>exact h3 x hz
   | none=>exact h4 hz
 generalize codePost s b i mark l bad n char w0=Q at *;have c2:=hR.c2;have z3:=hR.fz 3;have z4:=hR.fz 4;obtain ⟨out,c3,ho⟩:=hR.c3;have HR:=Hd hR;have HO:=Hd ho;have hR0:=hR;clear hR ho;by_cases hA:char=false∧mark=34
 ·clear hR0;obtain ⟨rfl,rfl⟩:=hA;go_enter Tryz.func219,Tryz.ntmps219;have hb1:Below w0.heap.size w0 (w0.alloc (.cells #[.int .u8 (n % 256)] 5)):=(bR _ w0).alloc (nR _) _;have hwn:IntKind.u8.wrap n=n % 256:=by unfold IntKind.wrap;simp [IntKind.signed,IntKind.bits]
  go_wp2_with (at_builtin;refine yA w0 #[.int .u8 (n % 256)] _ rfl _ _ 105 5 rfl Tryz.underlying105 (b+1) kY rfl (by decide) _ _ _ rfl HO.out 1 1 rfl rfl (by decide) (by intro u hu;simp at hu;subst hu;rfl) ?_ ?_ ?_ ?_)
  ·omega
  ·omega
  ·have:=HR.out.lt;omega
  intro v' w1 hown hgr _;obtain ⟨c3',z3'⟩:=HR.out.grew_cell hb1 c3 hgr;have hR':=HR.out.grew hb1 c3 hgr (l':=l++[n % 256]) (by simp) (by simp) hown;have hB':=HR.out.grew_below (bR b w0) (out':=v') hb1 c3 hgr;obtain ⟨va,vm,vc,rfl⟩:=zO hown;have HR':=Hd hR';have HB':=Hd hB';clear hR' hB' hgr hown hb1;go_wp2_with fail;refine bodyPost_ret (results_none rfl _ _ _) rfl ?_;refine HQ.out _ _ HB'.out rfl (fun x hx=>?_) (fun hx=>?_)
  ·simp only [codeZ,and_self,if_true,Option.some.injEq] at hx;rw [← hx];exact HR'.out
  ·simp [codeZ] at hx
 ·have hz:codeZ n char mark=if may n then some (formZ n) else none:=by unfold codeZ;rw [iN hA]
  have c4:=hR0.c4;clear hR0;have HZ:=Hd hz;clear hz;have hmk:char=false→¬ mark=34:=fun h h'=>hA ⟨h,h'⟩
  clear hA;by_cases hb1:1114111<n
  ·have hm:may n=false:=by rw [yBz];omega
   have HM:=Hd hm;clear hm;have HE:Hid (Q (.returned (.tuple #[])) (w0.setCell ⟨b,4,none⟩ (.bool true))):=by
    refine Hd (HQ.out _ _ ((bR b w0).setCell (by exact nR b) _) rfl (fun x hx=>?_) (fun _=>HR.out.bad' true));rw [HZ.out,iN (by rw [HM.out];decide)] at hx;cases hx
   rcases Bool.eq_false_or_eq_true char with rfl | rfl
   ·go_enter Tryz.func219,Tryz.ntmps219;go_wp2_with fail;refine bodyPost_ret (results_none rfl _ _ _) rfl ?_;exact HE.out
   ·have hmk:=hmk rfl;go_enter Tryz.func219,Tryz.ntmps219;go_wp2_with fail;refine bodyPost_ret (results_none rfl _ _ _) rfl ?_;exact HE.out
  ·have hwn:IntKind.i32.wrap n=n:=by unfold IntKind.wrap;simp [IntKind.signed,IntKind.bits];omega
   have C:=fun w=>zSb n w;have hfe:=zRm n;have hfl:=zDx n;have hnum:=zVf n;generalize hF:form n=F at *;have HF:=Hd hF;have HN:=Hd hnum;have HC:=Hd C;clear hF hnum C;by_cases hm:may n=false
   ·have HE:Hid (Q (.returned (.tuple #[])) (w0.setCell ⟨b,4,none⟩ (.bool true))):=by
     refine Hd (HQ.out _ _ ((bR b w0).setCell (by exact nR b) _) rfl (fun x hx=>?_) (fun _=>HR.out.bad' true));rw [HZ.out,iN (by rw [hm];decide)] at hx;cases hx
    have hF0:=hfe.2 hm;subst hF0;clear hfe hfl;rcases Bool.eq_false_or_eq_true char with rfl | rfl
    ·go_enter Tryz.func219,Tryz.ntmps219;go_wp2_with fail;refine (HC.out _).mono ?_;rintro e w1 ⟨rfl,rfl⟩;go_wp2_with fail;refine bodyPost_ret (results_none rfl _ _ _) rfl ?_;exact HE.out
    ·have hmk:=hmk rfl;go_enter Tryz.func219,Tryz.ntmps219;go_wp2_with fail;refine (HC.out _).mono ?_;rintro e w1 ⟨rfl,rfl⟩;go_wp2_with fail;refine bodyPost_ret (results_none rfl _ _ _) rfl ?_;exact HE.out
   ·have hF0:¬ F=ByteArray.empty:=fun h=>hm (hfe.1 h)
    have hF1:F.toList.isEmpty=false:=by
     rw [Bool.eq_false_iff];intro h;apply hF0;rw [List.isEmpty_iff,ByteArray.toList_eq] at h;apply ByteArray.ext;apply Array.ext';rw [h];rfl
    clear hfe hF0;have hlen:l.length+F.size≤140737488355328:=by
     have h4:=zDn n;omega
    have hbase:b+1≤w0.heap.size:=HR.out.lt;have HRd:=Hd HR.out.drew;have c3d:w0.drew.cell? ⟨b,3,none⟩=some out:=c3;have HOd:Hid (w0.drew.ownsRow (b+1) 5 1 out l.length (l.map (Value.int .u8))):=HO;have he:∀ (v':Value) (w1:World),w1.ownsRow (b+1) 5 1 v' (l.length+F.size) (l.map (Value.int .u8)++Lib.strCells F)→w0.drew.grownBy w1 out.ownBlock→Q (.returned (.tuple #[])) (w1.setCell ⟨b,3,none⟩ v'):=fun v' w1 hown hgr=>by
     refine HQ.out _ _ (HRd.out.grew_below (bR b w0).drew (bR _ _) c3d hgr) rfl (fun x hx=>?_) (fun hx=>?_)
     ·rw [HZ.out,iP (by simpa using hm),Option.some.injEq] at hx;refine HRd.out.grew (bR _ _) c3d hgr ?_ ?_ hown
      ·rw [lA,← hx,← HN.out,zAm]
      ·rw [List.map_append,zBm,HN.out,hx]
     ·rw [HZ.out,iP (by simpa using hm)] at hx;cases hx
    have HE:=Hd he;clear he;rcases Bool.eq_false_or_eq_true char with rfl | rfl
    ·go_enter Tryz.func219,Tryz.ntmps219;go_wp2_with fail;refine (HC.out _).mono ?_;rintro e w1 ⟨rfl,rfl⟩;go_wp2_with fail
     go_region_law
      (first
       | (refine jJ rfl _ _ 105 9 rfl (b+1) 5 Tryz.underlying105 Tryz.underlying9 kY out l.length (l.map (Value.int .u8)) rfl HOd.out F rfl hlen hbase ?_;intro v' w1 hown hgr;obtain ⟨c3',z3'⟩:=HRd.out.grew_cell (bR _ _) c3d hgr;obtain ⟨va,vm,vc,rfl⟩:=zO hown)
       | (go_simp;go_at_call 228;refine (HC.out _).mono ?_;rintro e w1 ⟨rfl,rfl⟩))
     all_goals (refine bodyPost_end (results_none rfl _ _ _) rfl ?_;exact HE.out _ _ hown hgr)
    ·have hmk:=hmk rfl;go_enter Tryz.func219,Tryz.ntmps219;go_wp2_with fail;refine (HC.out _).mono ?_;rintro e w1 ⟨rfl,rfl⟩;go_wp2_with fail
     go_region_law
      (first
       | (refine jJ rfl _ _ 105 9 rfl (b+1) 5 Tryz.underlying105 Tryz.underlying9 kY out l.length (l.map (Value.int .u8)) rfl HOd.out F rfl hlen hbase ?_;intro v' w1 hown hgr;obtain ⟨c3',z3'⟩:=HRd.out.grew_cell (bR _ _) c3d hgr;obtain ⟨va,vm,vc,rfl⟩:=zO hown)
       | (go_simp;go_at_call 228;refine (HC.out _).mono ?_;rintro e w1 ⟨rfl,rfl⟩))
     all_goals (refine bodyPost_end (results_none rfl _ _ _) rfl ?_;exact HE.out _ _ hown hgr)
end Go.Proofs.YtbjkdmbcpkopjaaGreatDoor
