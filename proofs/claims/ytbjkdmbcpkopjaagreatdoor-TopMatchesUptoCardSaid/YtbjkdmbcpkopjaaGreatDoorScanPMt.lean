/- Layers 5 and 7 in plain Lean: where a number ends, the lexeme at a place, all lexemes of a text; no program in sight. -/
import Derived.Test.YtbjkdmbcpkopjaaGreatDoorU8bMt
import Derived.Test.YtbjkdmbcpkopjaaGreatDoorQuotedPMt
import Derived.Lib.SlTrimSet
import Derived.Test.YtbjkdmbcpkopjaaGreatDoorCoreMt
import Derived.OneCell
namespace Go.Proofs.YtbjkdmbcpkopjaaGreatDoor
set_option linter.all false

def zA (s:ByteArray):List Nat:=s.data.toList.map fun b=>b.toNat
theorem zH (s:ByteArray):(zA s).length=s.size:=by unfold zA;rw [List.length_map,← zQ]
theorem zAs (s:ByteArray) (i:Nat) (h:i<s.size):(zA s)[i]?=some (bt s i):=by
 unfold zA bt;rw [List.getElem?_map,get!_list,gD];have hl:i<s.data.toList.length:=by rw [← zQ];exact h
 rw [gE hl];rfl
def numCh (s:ByteArray) (at':Nat) (hex:Bool) (i:Nat):Bool :=
 decide (bt s i=95) || decide (bt s i=46) || decide (dval (bt s i)<10) || decide (97≤bt s i∧bt s i≤122) || decide (65≤bt s i∧bt s i≤90) ||
  (decide (at'<i)&&decide (bt s i=43∨bt s i=45)&&(if hex then decide (bt s (i-1)=112∨bt s (i-1)=80) else decide (bt s (i-1)=101∨bt s (i-1)=69)))
def numTo (s:ByteArray) (at':Nat) (hex:Bool) (i:Nat):Nat:=if i<s.size∧numCh s at' hex i=true then numTo s at' hex (i+1) else i
termination_by s.size-i
decreasing_by omega
def numHex (s:ByteArray) (i:Nat):Bool:=decide (i+1<s.size)&&(decide (bt s i=48)&&decide (bt s (i+1)=120∨bt s (i+1)=88))
def numBegins (s:ByteArray) (i:Nat):Bool:=decide (i<s.size)&&(decide (dval (bt s i)<10) || (decide (bt s i=46)&&(decide (i+1<s.size)&&decide (dval (bt s (i+1))<10))))
def numEnd (s:ByteArray) (i:Nat):Nat:=numTo s i (numHex s i) i
@[irreducible] def numScan (s:ByteArray) (at':Int):Int×Int×Int :=
 if 0≤at'∧numBegins s at'.toNat=true then
  if kindL (zA (s.extract at'.toNat (numEnd s at'.toNat)))≠0 then (kindL (zA (s.extract at'.toNat (numEnd s at'.toNat))),numEnd s at'.toNat,0) else (0,0,4)
 else (0,0,15)
theorem zDr {s:ByteArray} {a i:Nat} {hex:Bool} (h:i<s.size) (hc:numCh s a hex i=true):numTo s a hex i=numTo s a hex (i+1):=by rw [numTo,iP ⟨h,hc⟩]
theorem zHx {s:ByteArray} {a i:Nat} {hex:Bool} (h:¬ (i<s.size∧numCh s a hex i=true)):numTo s a hex i=i:=by rw [numTo,iN h]
theorem zPa (s:ByteArray) (a:Nat) (hex:Bool) (i:Nat) (h:i≤s.size):i≤numTo s a hex i∧numTo s a hex i≤s.size:=by
 by_cases hc:i<s.size∧numCh s a hex i=true
 ·rw [zDr hc.1 hc.2];have:=zPa s a hex (i+1) (by omega);omega
 ·rw [zHx hc];omega
termination_by s.size-i
decreasing_by omega
theorem zKf {s:ByteArray} {i:Nat} (h:numBegins s i=true):i<numEnd s i∧numEnd s i≤s.size:=by
 unfold numBegins at h;simp only [Bool.and_eq_true,decide_eq_true_eq,Bool.or_eq_true] at h;unfold numEnd;rw [zDr h.1]
 ·have:=zPa s i (numHex s i) (i+1) (by omega);omega
 ·unfold numCh;rcases h.2 with h2 | ⟨h2,_⟩ <;> simp [h2]
def blankB (c:Nat):Bool:=c == 32 || c == 9 || c == 10 || c == 13
def blankTo (s:ByteArray) (i:Nat):Nat:=if i<s.size∧blankB (bt s i)=true then blankTo s (i+1) else i
termination_by s.size-i
decreasing_by omega
def inWord (s:ByteArray) (i:Nat):Bool:=decide ((rd s i).2≠0)&&(letter (rd s i).1 || digit (rd s i).1)
def wordTo (s:ByteArray) (i:Nat):Nat:=if h:i<s.size∧inWord s i=true then wordTo s (i+(rd s i).2) else i
termination_by s.size-i
decreasing_by unfold inWord at h;simp at h;omega
def lineTo (s:ByteArray) (i:Nat):Nat:=if i<s.size∧bt s i≠10 then lineTo s (i+1) else i
termination_by s.size-i
decreasing_by omega
def blockTo (s:ByteArray) (i:Nat):Option Nat :=
 if i+1<s.size then (if bt s i=42∧bt s (i+1)=47 then some (i+2) else blockTo s (i+1)) else none
termination_by s.size-i
decreasing_by omega
def signs3:List (List Nat):=[[60,60,61],[62,62,61],[38,94,61],[46,46,46]]
def signs2:List (List Nat):=[[60,60],[62,62],[38,94],[43,61],[45,61],[42,61],[47,61],[37,61],[38,61],[124,61],[94,61],[38,38],[124,124],[60,45],[43,43],[45,45],[61,61],[33,61],[60,61],[62,61],[58,61]]
def signs1:List (List Nat):=[[43],[45],[42],[47],[37],[38],[124],[94],[60],[62],[61],[33],[126],[40],[41],[91],[93],[123],[125],[44],[46],[58]]
def signL (l:List Nat):Nat :=
 if signs3.contains (l.take 3) then 3 else if signs2.contains (l.take 2) then 2 else if signs1.contains (l.take 1) then 1 else 0
@[irreducible] def lex (s:ByteArray) (i:Nat):Int×Int :=
 if (rd s i).1=65279 then (10,(i+(rd s i).2:Nat))
 else if blank (rd s i).1 then (10,blankTo s i)
 else if i+1<s.size∧bt s i=47∧bt s (i+1)=47 then (11,lineTo s i)
 else if i+1<s.size∧bt s i=47∧bt s (i+1)=42 then (match blockTo s (i+2) with | some e=>(12,(e:Int)) | none=>(0,0))
 else if letter (rd s i).1 then (if word (s.extract i (wordTo s i)) then (2,wordTo s i) else (1,wordTo s i))
 else if bt s i=59 then (9,(i+1:Nat))
 else if (numScan s i).2.2≠15 then ((numScan s i).1,(numScan s i).2.1)
 else if (begun s i).2.2.2≠15 then ((begun s i).1,(begun s i).2.1)
 else if 0<signL (zA (s.extract i s.size)) then (8,(i+signL (zA (s.extract i s.size)):Nat)) else (0,0)
def badHere (s:ByteArray) (i:Nat):Bool:=decide ((rd s i).2=0) || decide ((rd s i).1=0) || (decide ((rd s i).1=65279)&&decide (0<i))
def cleanZ (s:ByteArray) (i:Nat):Int:=if h:i<s.size then (if hb:badHere s i=true then (i:Int) else cleanZ s (i+(rd s i).2)) else -1
termination_by s.size-i
decreasing_by unfold badHere at hb;simp at hb;omega
@[irreducible] def clean (s:ByteArray):Int:=cleanZ s 0
theorem jF {s:ByteArray} {i:Nat} {l:List UInt8} (h:s.data.toList.drop i=l):s.size-i=l.length:=by
 have:=congrArg List.length h;rw [List.length_drop,← zQ] at this;exact this
theorem jS {s:ByteArray} {i:Nat} {b:UInt8} {t:List UInt8} (h:s.data.toList.drop i=b::t):i<s.size∧bt s i=b.toNat∧s.data.toList.drop (i+1)=t:=by
 have hlen:=jF h;refine ⟨by simp at hlen;omega,?_,?_⟩
 ·unfold bt;rw [get!_list];have h1:(s.data.toList.drop i)[0]?=some b:=by rw [h];rfl
  rw [List.getElem?_drop,Nat.add_zero] at h1;rw [gD,h1];rfl
 ·have:(s.data.toList.drop i).drop 1=t:=by rw [h];rfl
  rwa [List.drop_drop] at this
theorem xK (s:ByteArray) (i:Nat):(s.extract i s.size).data.toList=s.data.toList.drop i:=by
 rw [yE,List.take_of_length_le];rw [List.length_drop,← zQ];omega
theorem fV (s:ByteArray) (i:Nat) (h:i≤s.size):i≤blankTo s i∧blankTo s i≤s.size:=by
 by_cases hc:i<s.size∧blankB (bt s i)=true
 ·rw [blankTo,iP hc];have:=fV s (i+1) (by omega);omega
 ·rw [blankTo,iN hc];omega
termination_by s.size-i
decreasing_by omega
theorem zDs (s:ByteArray) (i:Nat) (h:i≤s.size):i≤lineTo s i∧lineTo s i≤s.size:=by
 by_cases hc:i<s.size∧bt s i≠10
 ·rw [lineTo,iP hc];have:=zDs s (i+1) (by omega);omega
 ·rw [lineTo,iN hc];omega
termination_by s.size-i
decreasing_by omega
theorem zBx (s:ByteArray) (i e:Nat) (h:blockTo s i=some e):i+2≤e∧e≤s.size:=by
 rw [blockTo] at h;split at h
 ·split at h
  ·cases h;omega
  ·have:=zBx s (i+1) e h;omega
 ·cases h
termination_by s.size-i
decreasing_by omega
theorem zBg (s:ByteArray) (i:Nat) (h:i≤s.size):i≤wordTo s i∧wordTo s i≤s.size:=by
 by_cases hc:i<s.size∧inWord s i=true
 ·rw [wordTo,dif_pos hc];have hw:=jI s i;have h0:(rd s i).2≠0:=by have:=hc.2;unfold inWord at this;simp at this;exact this.1
  have:=zBg s (i+(rd s i).2) (by omega);omega
 ·rw [wordTo,dif_neg hc];omega
termination_by s.size-i
decreasing_by omega
def blanks:List UInt8:=[32,9,13,10]
theorem zSj (b:UInt8):blanks.contains b=blankB b.toNat:=by
 have h:∀ n:Nat,n<256→(blanks.contains (UInt8.ofNat n))=blankB n:=by decide +kernel
 have:=h b.toNat b.toNat_lt;rw [UInt8.ofNat_toNat] at this;exact this
theorem zCs (s:ByteArray):∀ (l:List UInt8) (i:Nat),s.data.toList.drop i=l→i≤s.size→(Lib.trimLeftS l blanks).length+blankTo s i=s.size
 | [],i,h,hi=>by
  have hlen:=jF h;rw [blankTo,iN (by simp at hlen;omega)];simp [Lib.trimLeftS] at hlen ⊢;omega
 | b::t,i,h,hi=>by
  obtain ⟨h1,h2,h3⟩:=jS h;have hlen:=jF h;have ih:=zCs s t (i+1) h3 (by omega);rw [blankTo,h2,← zSj];by_cases hb:blanks.contains b=true
  ·rw [iP ⟨h1,hb⟩];unfold Lib.trimLeftS at ih ⊢;rw [List.dropWhile_cons_of_pos hb];exact ih
  ·rw [iN (fun hh=>hb hh.2)];unfold Lib.trimLeftS;rw [List.dropWhile_cons_of_neg hb];omega
theorem zSk (s:ByteArray) (i:Nat) (hi:i≤s.size):(Lib.trimLeftS (s.extract i s.size).data.toList blanks).length+blankTo s i=s.size:=by
 rw [xK];exact zCs s _ i rfl hi
theorem zCt (s:ByteArray):∀ (l:List UInt8) (i:Nat),s.data.toList.drop i=l→i≤s.size→lineTo s i=if Lib.indexByte l 10<0 then s.size else i+(Lib.indexByte l 10).toNat
 | [],i,h,hi=>by
  have hlen:=jF h;rw [lineTo,iN (by simp at hlen;omega),iP (by decide)];simp at hlen;omega
 | b::t,i,h,hi=>by
  obtain ⟨h1,h2,h3⟩:=jS h;have ih:=zCt s t (i+1) h3 (by omega);rw [lineTo,h2];have hge:=Lib.indexByte_ge t 10;by_cases hb:b=10
  ·subst hb;have h0:Lib.indexByte (10::t) 10=0:=by unfold Lib.indexByte;rw [iP (by decide)]
   rw [iN (fun hh=>hh.2 rfl),h0];rfl
  ·have hn:b.toNat≠10:=fun e=>hb (UInt8.toNat_inj.1 (by rw [e];rfl))
   have h0:Lib.indexByte (b::t) 10=if Lib.indexByte t 10 == -1 then -1 else Lib.indexByte t 10+1:=by
    rw [Lib.indexByte,iN (by simpa using hb)]
   rw [iP ⟨h1,hn⟩,ih,h0];by_cases hm:Lib.indexByte t 10=-1
   ·rw [hm];rfl
   ·have e2:(if Lib.indexByte t 10 == -1 then (-1:Int) else Lib.indexByte t 10+1)=Lib.indexByte t 10+1:=by rw [iN (by simpa using hm)]
    rw [e2,iN (by omega),iN (by omega)];omega
theorem zSl (s:ByteArray) (i:Nat) (hi:i≤s.size):lineTo s i=if Lib.indexByte (s.extract i s.size).data.toList 10<0 then s.size else i+(Lib.indexByte (s.extract i s.size).data.toList 10).toNat:=by
 rw [xK];exact zCt s _ i rfl hi
theorem zBn (s:ByteArray):∀ (l:List UInt8) (i:Nat),s.data.toList.drop i=l→i≤s.size→blockTo s i=if Lib.index l [42,47]<0 then none else some (i+(Lib.index l [42,47]).toNat+2)
 | [],i,h,hi=>by
  have hlen:=jF h;rw [blockTo,iN (by simp at hlen;omega),iP (by decide)]
 | b::t,i,h,hi=>by
  obtain ⟨h1,h2,h3⟩:=jS h;have hlen:=jF h;have ih:=zBn s t (i+1) h3 (by omega);have hge:=Lib.index_ge t [42,47];rw [blockTo,h2];have key:(b.toNat=42∧i+1<s.size∧bt s (i+1)=47)↔([42,47]:List UInt8).isPrefixOf (b::t)=true:=by
   cases t with
   | nil =>
    simp at hlen;constructor
    ·rintro ⟨_,h,_⟩;omega
    ·intro h;simp [List.isPrefixOf] at h
   | cons d t =>
    obtain ⟨g1,g2,_⟩:=jS h3;rw [g2];simp only [List.isPrefixOf,Bool.and_true,Bool.and_eq_true,beq_iff_eq];constructor
    ·rintro ⟨e1,_,e2⟩;exact ⟨(UInt8.toNat_inj.1 (by rw [e1];rfl)),(UInt8.toNat_inj.1 (by rw [e2];rfl))⟩
    ·rintro ⟨rfl,rfl⟩;exact ⟨rfl,g1,rfl⟩
  rw [Lib.index];by_cases hp:([42,47]:List UInt8).isPrefixOf (b::t)=true
  ·obtain ⟨k1,k2,k3⟩:=key.2 hp;rw [iP k2,iP ⟨k1,k3⟩,iP hp];rfl
  ·rw [iN hp];have e:(if i+1<s.size then if b.toNat=42∧bt s (i+1)=47 then some (i+2) else blockTo s (i+1) else none)=blockTo s (i+1):=by
    by_cases hl:i+1<s.size
    ·rw [iP hl,iN (fun hh=>hp (key.1 ⟨hh.1,hl,hh.2⟩))]
    ·rw [iN hl,blockTo,iN (by omega)]
   rw [e,ih];by_cases hm:Lib.index t [42,47]=-1
   ·rw [hm];rfl
   ·have e2:(if Lib.index t [42,47] == -1 then (-1:Int) else Lib.index t [42,47]+1)=Lib.index t [42,47]+1:=by rw [iN (by simpa using hm)]
    rw [e2,iN (by omega),iN (by omega)]
    congr 1;omega
theorem zPb (s:ByteArray) (i:Nat) (hi:i≤s.size):blockTo s i=if Lib.index (s.extract i s.size).data.toList [42,47]<0 then none else some (i+(Lib.index (s.extract i s.size).data.toList [42,47]).toNat+2):=by
 rw [xK];exact zBn s _ i rfl hi
theorem prefix2 (s:ByteArray) (i:Nat) (c d:UInt8):Lib.hasPrefix (s.extract i s.size).data.toList [c,d]=decide (i+1<s.size∧bt s i=c.toNat∧bt s (i+1)=d.toNat):=by
 rw [xK,Bool.eq_iff_iff,decide_eq_true_eq];unfold Lib.hasPrefix;cases h:s.data.toList.drop i with
 | nil =>
  have:=jF h;simp at this;simp [List.isPrefixOf];omega
 | cons b t =>
  obtain ⟨h1,h2,h3⟩:=jS h;cases ht:t with
  | nil =>
   rw [ht] at h3;have:=jF h3;simp at this;simp [List.isPrefixOf];omega
  | cons e t' =>
   rw [ht] at h3;obtain ⟨g1,g2,_⟩:=jS h3;rw [h2,g2];simp only [List.isPrefixOf,Bool.and_true,Bool.and_eq_true,beq_iff_eq];constructor
   ·rintro ⟨rfl,rfl⟩;exact ⟨g1,rfl,rfl⟩
   ·rintro ⟨_,e1,e2⟩;exact ⟨(UInt8.toNat_inj.1 e1).symm,(UInt8.toNat_inj.1 e2).symm⟩
theorem zKg {s:ByteArray} {i:Nat} (h:i<s.size) (hb:badHere s i=true):cleanZ s i=i:=by rw [cleanZ,dif_pos h,dif_pos hb]
theorem zSm {s:ByteArray} {i:Nat} (h:i<s.size) (hb:badHere s i=false):cleanZ s i=cleanZ s (i+(rd s i).2):=by rw [cleanZ,dif_pos h,dif_neg (by simp [hb])]
theorem zWc {s:ByteArray} {i:Nat} (h:¬ i<s.size):cleanZ s i=-1:=by rw [cleanZ,dif_neg h]
def upTo (s:ByteArray):Nat:=match (scan s 0).2 with | some i=>i | none=>s.size
theorem zMb (s:ByteArray):upTo s≤s.size:=by
 unfold upTo;cases h:(scan s 0).2 with
 | none=>exact nR _
 | some j=>have:=(gO s 0 j h).2;simp only [];omega
theorem zZx (s:ByteArray):bad s=if upTo s<s.size then (upTo s:Int) else -1:=by
 unfold bad badZ upTo;cases h:(scan s 0).2 with
 | none=>simp
 | some j=>have:=(gO s 0 j h).2;simp only [];rw [iP this]
theorem zWd {s:ByteArray} {i:Nat} (hs:(scan s i).2=(scan s 0).2) (hi:i<upTo s):(rd s i).2≠0∧i+(rd s i).2≤upTo s∧(scan s (i+(rd s i).2)).2=(scan s 0).2:=by
 have hle:=zMb s;have h0:(rd s i).2≠0:=fun h0=>by
  rw [zCy (by omega) h0] at hs;unfold upTo at hi;rw [← hs] at hi;simp at hi
 have e:=congrArg Prod.snd (fE (s:=s) (i:=i) (by omega) h0);simp only [] at e;refine ⟨h0,?_,by rw [← e,hs]⟩;have hw:=jI s i;have e2:(scan s (i+(rd s i).2)).2=(scan s 0).2:=by rw [← e,hs]
 unfold upTo;cases h:(scan s 0).2 with
 | none=>simp only [];omega
 | some j =>
  rw [h] at e2;exact (gO s _ j e2).1
theorem zZy {s:ByteArray} (hs:(scan s (upTo s)).2=(scan s 0).2) (hi:upTo s<s.size):(rd s (upTo s)).2=0:=by
 cases Nat.eq_zero_or_pos (rd s (upTo s)).2 with
 | inl h=>exact h
 | inr h =>
  exfalso;have h0:(rd s (upTo s)).2≠0:=by omega
  have e:=congrArg Prod.snd (fE (s:=s) (i:=upTo s) hi h0);simp only [] at e;cases h2:(scan s 0).2 with
  | none=>unfold upTo at hi;rw [h2] at hi;simp at hi
  | some j =>
   have hj:upTo s=j:=by unfold upTo;rw [h2]
   have:=gO s (upTo s+(rd s (upTo s)).2) j (by rw [← e,hs,h2]);omega
theorem yBt {s:ByteArray} {i:Nat} (h0:(rd s i).2≠0) (h:i+(rd s i).2≤upTo s):rd (s.extract 0 (upTo s)) i=rd s i:=by
 have hle:=zMb s;have e:=zRq s (upTo s) hle;have hz:(s.extract 0 (upTo s)).size=upTo s:=by rw [ByteArray.size_extract];omega
 have:=zTh (s.extract 0 (upTo s)) (s.extract (upTo s) s.size) i;rw [e,hz] at this;exact this h0 h
theorem zWe (s:ByteArray) (i:Nat) (h:(begun s i).1≠0):(begun s i).2.2.2=0:=by
 by_cases he:(begun s i).2.2.2=0
 ·exact he
 ·exfalso;unfold begun at h he;split at h
  ·exact h rfl
  ·rename_i h1;rw [iN h1] at he;split at h
   ·rename_i h2;rw [iP h2] at he;unfold begunAt at h he;split at h
    ·rename_i h3;rw [iP h3] at he;cases hr:raw s ((i:Int).toNat+1) with
     | none=>rw [hr] at h;exact h rfl
     | some p=>rw [hr] at he;exact he rfl
    ·rename_i h3;rw [iN h3] at he;split at h
     ·rename_i h4;rw [iP h4] at he;cases hr:body s ((i:Int).toNat+1) with
      | none=>rw [hr] at h;exact h rfl
      | some p=>rw [hr] at he;exact he rfl
     ·rename_i h4;rw [iN h4] at he;cases hr:single s ((i:Int).toNat+1) with
      | none=>rw [hr] at h;exact h rfl
      | some p=>rw [hr] at he;exact he rfl
   ·exact h rfl
set_option maxRecDepth 100000
set_option maxHeartbeats 32000000
open Go.RowKit
theorem kG (c:Nat) (hc:c<256) (w:World) :
  Calls Tryz.prog 174 #[.int .u8 (c:Int)] w fun e w'=>e=.returned (.int .i64 (dval c:Nat))∧w=w':=by
 have hc':(c:Int)<256:=by omega
 have hc0:(0:Int)≤c:=by omega
 go_enter Tryz.func174,Tryz.ntmps174;go_wp2_with fail;all_goals go_ret
 all_goals (refine ⟨zFg ?_,rfl⟩)
 all_goals (unfold dval;repeat (first | rw [iP (by omega)] | rw [iN (by omega)] | omega))
structure RW (w:World) (B:Nat) (s:ByteArray) (b:Nat) (n:Int):Prop where
 h0:w.heap[B]?=some (.cells #[.string s] 9 (0,0))
 h1:w.heap[B+1]?=some (.cells #[.int .i64 b] 3 (0,0))
 h2:w.heap[B+1+1]?=some (.cells #[.int .i64 n] 3 (0,0))
theorem RW.drewN {w:World} {B:Nat} {s:ByteArray} {b:Nat} {n:Int} (h:RW w B s b n) (k:Nat):RW (w.drewN k) B s b n:=⟨h.h0,h.h1,h.h2⟩
theorem RW.c0 {w:World} {B:Nat} {s:ByteArray} {b:Nat} {n:Int} (h:RW w B s b n):w.cell? ⟨B,0,none⟩=some (.string s):=cell_of_one h.h0
theorem RW.c1 {w:World} {B:Nat} {s:ByteArray} {b:Nat} {n:Int} (h:RW w B s b n):w.cell? ⟨B+1,0,none⟩=some (.int .i64 b):=cell_of_one h.h1
theorem RW.c2 {w:World} {B:Nat} {s:ByteArray} {b:Nat} {n:Int} (h:RW w B s b n):w.cell? ⟨B+1+1,0,none⟩=some (.int .i64 n):=cell_of_one h.h2
theorem RW.z2 {w:World} {B:Nat} {s:ByteArray} {b:Nat} {n:Int} (h:RW w B s b n):w.frozen? ⟨B+1+1,0,none⟩=false:=free_of_one h.h2
theorem RW.set {w:World} {B:Nat} {s:ByteArray} {b:Nat} {n:Int} (h:RW w B s b n) (m:Int):RW (w.setCell ⟨B+1+1,0,none⟩ (.int .i64 m)) B s b m :=
 ⟨by rw [heap_setCell_other _ _ _ _ (by show B≠B+1+1;omega)];exact h.h0,by rw [heap_setCell_other _ _ _ _ (by show B+1≠B+1+1;omega)];exact h.h1,one_setCell h.h2⟩
def rwN (B:Nat) (w:World):Nat:=match w.cell? ⟨B+1+1,0,none⟩ with
 | some (.int _ n)=>n.toNat
 | _=>0
theorem RW.n {w:World} {B:Nat} {s:ByteArray} {b:Nat} {n:Int} (h:RW w B s b n):rwN B w=n.toNat:=by unfold rwN;rw [h.c2]
theorem RW.new (w:World) (s:ByteArray) (b:Nat):RW (((w.alloc (.cells #[.string s] 9)).alloc (.cells #[.int .i64 b] 3)).alloc (.cells #[.int .i64 0] 3)) w.heap.size s b 0 :=
 ⟨by rw [Below.heap_alloc _ _ _ (by simp;omega),Below.heap_alloc _ _ _ (by simp)];exact heap_alloc_new _ _,
  by rw [Below.heap_alloc _ _ _ (by simp)];have:=heap_alloc_new (w.alloc (.cells #[.string s] 9)) (.cells #[.int .i64 b] 3);simpa using this,
  by have:=heap_alloc_new ((w.alloc (.cells #[.string s] 9)).alloc (.cells #[.int .i64 b] 3)) (.cells #[.int .i64 0] 3);simpa using this⟩
def isDig (s:ByteArray) (b n:Nat):Bool:=decide (n<s.size)&&decide (dval (bt s n)<b)
theorem zKx (s:ByteArray) (b n B:Nat) (hn:n≤s.size) (hb:b≤16) (w:World) (hR:RW w B s b n) :
  Calls Tryz.prog 173 #[.pointer (some ⟨B+1+1,0,none⟩),.pointer (some ⟨B,0,none⟩),.pointer (some ⟨B+1,0,none⟩)] w fun e w'=>e=.returned (.bool (isDig s b n))∧∃ k,w'=w.drewN k:=by
 have c0:=hR.c0;have c1:=hR.c1;have c2:=hR.c2;have CV:=Hd (fun w=>kG (bt s n) (yQ s n) w);clear hR;by_cases hlt:n<s.size
 ·have hlt':(n:Int)<s.size:=by omega
  have hn0:(0:Int)≤n:=by omega
  have yy:∀ h,((s[n]'h).toNat:Int)=(bt s n:Int):=fun h=>by rw [xC s n h]
  have hd:isDig s b n=decide (dval (bt s n)<b):=by unfold isDig;simp [hlt]
  have hdv:dval (bt s n)≤99:=by unfold dval;split <;> (try split) <;> (try split) <;> omega
  have HD:=Hd hd;clear hd;generalize bt s n=c at *;generalize hx:dval c=x at *;clear hx;go_enter Tryz.func173,Tryz.ntmps173;go_wp2_with fail;have CV':∀ n,Calls Tryz.prog 174 #[.int .u8 (c:Int)] (w.drewN n) fun e w'=>e=.returned (.int .i64 (x:Nat))∧∃ m,w'=w.drewN m:=fun n=>Calls.quiet_of_same ((CV.out _).mono fun e w' h=>⟨h.1,h.2.symm⟩)
  have CC:=Hd CV';clear CV';go_quiet (exact CC.out _);go_wp2_with fail;go_ret;exact ⟨xE HD.out.symm,nq,rfl⟩
 ·have hlt':¬ (n:Int)<s.size:=by omega
  have hd:isDig s b n=false:=by unfold isDig;simp [hlt]
  have HD:=Hd hd;clear hd CV;go_enter Tryz.func173,Tryz.ntmps173;go_wp2_with fail;go_quiet (fail);go_wp2_with fail;go_ret;exact ⟨xE HD.out.symm,nq,rfl⟩
def rowAt (b:Nat) (s:ByteArray) (n:Nat):Nat:=rowL b ((zA s).drop n)
theorem vX (s:ByteArray) (n:Nat) (h:n<s.size):(zA s).drop n=bt s n::(zA s).drop (n+1):=by
 have hl:n<(zA s).length:=by rw [zH];exact h
 rw [List.drop_eq_getElem_cons hl]
 congr 1
 have:=zAs s n h;rw [gE hl] at this;exact Option.some.inj this
theorem zGh (s:ByteArray) (n:Nat) (h:s.size≤n):(zA s).drop n=[]:=List.drop_of_length_le (by rw [zH];exact h)
theorem zXq {b:Nat} {s:ByteArray} {n:Nat} (h:isDig s b n=false):rowAt b s n=0:=by
 unfold rowAt;by_cases hn:n<s.size
 ·rw [vX s n hn];unfold isDig at h;simp [hn] at h;exact zNj (by omega)
 ·rw [zGh s n (by omega),zGn]
theorem zUg {b:Nat} {s:ByteArray} {n:Nat} (h:isDig s b n=true) (h1:n+2<s.size) (h2:bt s (n+1)=95) (h3:dval (bt s (n+2))<b):rowAt b s n=2+rowAt b s (n+2):=by
 unfold rowAt;unfold isDig at h;simp at h;rw [vX s n (by omega),vX s (n+1) (by omega),vX s (n+1+1) (by omega),h2];exact zGo h.2 h3
theorem zUh {b:Nat} {s:ByteArray} {n:Nat} (h:isDig s b n=true) (h1:¬ (n+2<s.size∧bt s (n+1)=95∧dval (bt s (n+2))<b)):rowAt b s n=1+rowAt b s (n+1):=by
 unfold rowAt;unfold isDig at h;simp at h;rw [vX s n (by omega)];refine zJo h.2 ?_;rintro ⟨g1,d,g2,g3⟩;by_cases hn:n+1<s.size
 ·rw [vX s (n+1) hn] at g1 g2;simp at g1;by_cases hn2:n+2<s.size
  ·rw [vX s (n+1+1) hn2] at g2;simp at g2;subst g2;exact h1 ⟨hn2,g1,g3⟩
  ·rw [zGh s (n+1+1) (by omega)] at g2;simp at g2
 ·rw [zGh s (n+1) (by omega)] at g1;simp at g1
theorem vR (s:ByteArray) (b:Nat) (hb:b≤16) (hs:s.size≤2147483647) (w:World) :
  Calls Tryz.prog 139 #[.string s,.int .i64 (b:Int)] w fun e w'=>e=.returned (.int .i64 (rowL b (zA s):Nat))∧Below w.heap.size w w':=by
 have HQ:Hid (∀ w' n,rowL b (zA s)=n→Below w.heap.size w w'→(fun (e:Ending) w'=>e=.returned (.int .i64 (rowL b (zA s):Nat))∧Below w.heap.size w w') (.returned (.int .i64 (n:Nat))) w'):=Hd fun w' n h h2=>⟨by rw [h],h2⟩
 generalize (fun (e:Ending) w'=>e=.returned (.int .i64 (rowL b (zA s):Nat))∧Below w.heap.size w w')=Q at *;have CD:=Hd (fun n hn w1 hR=>zKx s b n w.heap.size hn hb w1 hR);go_enter Tryz.func139,Tryz.ntmps139;go_wp2_with fail;go_loopw [] (fun wr=>∃ n:Nat,n≤s.size∧rowL b (zA s)=n+rowAt b s n∧RW wr w.heap.size s b n∧Below w.heap.size w wr) (fun wr=>s.size-rwN w.heap.size wr)
 case atStart=>exact ⟨0,Nat.zero_le _,by unfold rowAt;simp,RW.new w s b,(((bR _ _).alloc (nR _) _).alloc (by simp) _).alloc (by simp;omega) _⟩
 case round =>
  obtain ⟨n,hn,hr,hR,hB⟩:=hrel;have HR:=Hd hR;have HB:=Hd hB;have HE:=Hd hr;have CDn:=CD.out n hn _ hR;clear hr hB hR;cases hd:isDig s b n
  ·rw [hd] at CDn;have CC:=Hd CDn;have H0:=Hd (zXq hd);clear CDn hd;go_wp2_with fail;refine CC.out.mono ?_;rintro e w1 ⟨rfl,k,rfl⟩;have c2:=(HR.out.drewN k).c2;have HB1:=Hd (bdrewN HB.out k);clear HB CC;generalize wr.drewN k=w1 at *;go_wp2_with fail;show Q (.returned (.int .i64 _)) _;exact HQ.out _ _ (by rw [HE.out,H0.out,Nat.add_zero]) HB1.out
  ·rw [hd] at CDn;have CC:=Hd CDn;have hlt:n<s.size:=by unfold isDig at hd;simp at hd;exact hd.1
   have HT:=Hd (zUg hd);have HO:=Hd (zUh hd);clear CDn hd;go_wp2_with fail;refine CC.out.mono ?_;rintro e w1 ⟨rfl,k,rfl⟩;have hw1:(n:Int)+1≤2147483648:=by omega
   have hR1:=HR.out.drewN k;have HBk:=Hd (bdrewN HB.out k);clear HB CC;generalize wr.drewN k=w1 at *;have c2:=hR1.c2;have z2:=hR1.z2;have HR2:Hid (RW (w1.setCell ⟨w.heap.size+1+1,0,none⟩ (.int .i64 ((n:Int)+1))) w.heap.size s b ((n+1:Nat):Int)):=Hd (by rw [show ((n+1:Nat):Int)=(n:Int)+1 by omega];exact hR1.set _);have HB2:=Hd (HBk.out.setCell (p:=⟨w.heap.size+1+1,0,none⟩) (by show w.heap.size≤w.heap.size+1+1;omega) (.int .i64 ((n:Int)+1)));clear hR1;go_wp2_with fail;have hr2:=HR2.out;have c0:=hr2.c0;have c1:=hr2.c1;have c2:=hr2.c2;have z2:=hr2.z2;have hw2:IntKind.i64.wrap (((n+1:Nat):Int)+1)=((n+1:Nat):Int)+1:=wI (by omega);clear hr2 hw1;generalize w1.setCell ⟨w.heap.size+1+1,0,none⟩ (.int .i64 ((n:Int)+1))=w2 at *;clear HBk;generalize hm:n+1=m at *;have HM:=Hd hm;clear hm;have hm0:(0:Int)≤m:=by omega
   by_cases g1:m+1<s.size
   ·have g1':(m:Int)+1<s.size:=by omega
    have g3':((m:Int)+1).toNat=m+1:=by omega
    have g2':(m:Int)<s.size:=by have:=HM.out;omega
    have yy:∀ h,((s[m]'h).toNat:Int)=(bt s m:Int):=fun h=>by rw [xC s m h]
    by_cases h95:bt s m=95
    ·have h95':(bt s m:Int)=95:=by omega
     have hm1:(0:Int)≤(m:Int)+1:=by omega
     have zz:∀ h,((s[m+1]'h).toNat:Int)=(bt s (m+1):Int):=fun h=>by rw [xC s (m+1) h]
     have hdv:dval (bt s (m+1))≤99:=by unfold dval;split <;> (try split) <;> (try split) <;> omega
     have CV:=Hd (fun w=>kG (bt s (m+1)) (yQ s (m+1)) w);have HT2:Hid (dval (bt s (m+1))<b→rowAt b s n=2+rowAt b s (m+1)):=Hd fun h=>by
      have e:=HM.out;subst e;exact HT.out g1 h95 h
     have HO2:Hid (¬ dval (bt s (m+1))<b→rowAt b s n=1+rowAt b s m):=Hd fun h=>by
      have e:=HM.out;subst e;exact HO.out fun hh=>h hh.2.2
     clear HT HO;generalize bt s m=c at *;subst h95;generalize bt s (m+1)=d at *;generalize dval d=x at *;have CV':∀ n,Calls Tryz.prog 174 #[.int .u8 (d:Int)] (w2.drewN n) fun e w'=>e=.returned (.int .i64 (x:Nat))∧∃ m,w'=w2.drewN m:=fun n=>Calls.quiet_of_same ((CV.out _).mono fun e w' h=>⟨h.1,h.2.symm⟩)
     have CC:=Hd CV';clear CV' CV;by_cases hx:x<b
     ·have hx':(x:Int)<b:=by omega
      go_quiet (exact CC.out _);have hr3:=HR2.out.drewN nq;have HB3:=Hd (bdrewN HB2.out nq);clear HB2 CC HR2;generalize w2.drewN nq=w3 at *;have c2:=hr3.c2;have z2:=hr3.z2;have HR4:Hid (RW (w3.setCell ⟨w.heap.size+1+1,0,none⟩ (.int .i64 ((m:Int)+1))) w.heap.size s b ((m+1:Nat):Int)):=Hd (by rw [show ((m+1:Nat):Int)=(m:Int)+1 by omega];exact hr3.set _);have HB4:=Hd (HB3.out.setCell (p:=⟨w.heap.size+1+1,0,none⟩) (by show w.heap.size≤w.heap.size+1+1;omega) (.int .i64 ((m:Int)+1)));clear hr3;go_wp2_with fail;go_roundw
      case rel=>exact ⟨m+1,by omega,by have:=HT2.out hx;have:=HE.out;have:=HM.out;omega,HR4.out,HB4.out⟩
      case measure=>rw [HR4.out.n,HR.out.n];have:=HM.out;omega
     ·have hx':¬ (x:Int)<b:=by omega
      go_quiet (exact CC.out _);have HR3:=Hd (HR2.out.drewN nq);have HB3:=Hd (bdrewN HB2.out nq);clear HB2 CC HR2;generalize w2.drewN nq=w3 at *;go_wp2_with fail;go_roundw
      case rel=>exact ⟨m,by omega,by have:=HO2.out hx;have:=HE.out;have:=HM.out;omega,HR3.out,HB3.out⟩
      case measure=>rw [HR3.out.n,HR.out.n];have:=HM.out;omega
    ·have h95':¬ (bt s m:Int)=95:=by omega
     have HO2:Hid (rowAt b s n=1+rowAt b s m):=Hd (by
      have e:=HM.out;subst e;exact HO.out fun hh=>h95 hh.2.1)
     clear HT HO;generalize bt s m=c at *;go_quiet (fail);have HR3:=Hd (HR2.out.drewN nq);have HB3:=Hd (bdrewN HB2.out nq);clear HB2 HR2;generalize w2.drewN nq=w3 at *;go_wp2_with fail;go_roundw
     case rel=>exact ⟨m,by omega,by have:=HO2.out;have:=HE.out;have:=HM.out;omega,HR3.out,HB3.out⟩
     case measure=>rw [HR3.out.n,HR.out.n];have:=HM.out;omega
   ·have g1':¬ (m:Int)+1<s.size:=by omega
    have HO2:Hid (rowAt b s n=1+rowAt b s m):=Hd (by
     have e:=HM.out;subst e;exact HO.out fun hh=>g1 hh.1)
    clear HT HO;go_quiet (fail);have HR3:=Hd (HR2.out.drewN nq);have HB3:=Hd (bdrewN HB2.out nq);clear HB2 HR2;generalize w2.drewN nq=w3 at *;go_wp2_with fail;go_roundw
    case rel=>exact ⟨m,by have:=HM.out;omega,by have:=HO2.out;have:=HE.out;have:=HM.out;omega,HR3.out,HB3.out⟩
    case measure=>rw [HR3.out.n,HR.out.n];have:=HM.out;omega
theorem zAh (t:ByteArray) (i:Int) (k:Nat) (h:i=k) (hk:k≤t.size) (w:World) :
  (Instr.slice 9 (.string t) (some (.int .i64 i)) none none).run Tryz.prog w=.ok (.string (t.extract k t.size)) w:=by
 subst h;rw [run_slice_string_from_if _ _ t _ _ Tryz.underlying9,iP ⟨by omega,by omega⟩,Int.toNat_natCast]
theorem yG (s:ByteArray) (i:Nat):zA (s.extract i s.size)=(zA s).drop i:=by
 unfold zA;rw [xK,List.map_drop]
theorem zUi (s:ByteArray) (h:0<s.size):zA s=bt s 0::(zA s).drop 1:=by
 have:=vX s 0 h
 rwa [List.drop_zero] at this
theorem zDh (s:ByteArray) (h:0<s.size):(zA s).head?=some (bt s 0):=by rw [zUi s h];rfl
theorem zJm (s:ByteArray) (i:Nat) (h:s.size≤i):(zA s)[i]?=none:=List.getElem?_eq_none (by rw [zH];exact h)
theorem zXr (s:ByteArray) (h:s.size=0):zA s=[]:=List.eq_nil_of_length_eq_zero (by rw [zH];exact h)
theorem zCk (s:ByteArray) (h:s.size=0):s.toList.isEmpty=true:=by
 rw [ByteArray.toList_eq,List.isEmpty_iff_length_eq_zero,← zQ];exact h
theorem zFi (s:ByteArray) (h:0<s.size):s.toList.isEmpty=false:=by
 rw [ByteArray.toList_eq,Bool.eq_false_iff];intro e;rw [List.isEmpty_iff_length_eq_zero,← zQ] at e;omega
theorem zDi (s:ByteArray) (h:s.size=0):(s.toList == [])=true:=by
 rw [List.isEmpty_iff.1 (zCk s h)];rfl
theorem zGi (s:ByteArray) (h:0<s.size):(s.toList == [])=false:=by
 rw [bE];intro e;have:=zFi s h;rw [e] at this;cases this
theorem zUj (c1 c2 c:UInt8):Lib.indexByte [c1,c2] c=if c1=c then 0 else if c2=c then 1 else -1:=by
 by_cases h1:c1=c
 ·simp [Lib.indexByte,h1]
 ·by_cases h2:c2=c
  ·simp [Lib.indexByte,h1,h2]
  ·simp [Lib.indexByte,h1,h2]
theorem zXs (s:ByteArray) (i:Nat) (c:UInt8):(c=((bt s i:Int)).toNat.toUInt8)↔bt s i=c.toNat:=by
 have hl:=yQ s i;rw [Int.toNat_natCast];constructor
 ·intro h;rw [h];show bt s i=(UInt8.ofNat (bt s i)).toNat;rw [xU _ hl]
 ·intro h;apply UInt8.toNat_inj.1;show c.toNat=(UInt8.ofNat (bt s i)).toNat;rw [xU _ hl,h]
theorem zCl (s:ByteArray) (c1 c2:UInt8) (hs:s.size≤2147483647) (w:World) :
  Calls Tryz.prog 204 #[.string s,.string ⟨#[c1,c2]⟩] w fun e w'=>e=.returned (.int .i64 (powL c1.toNat c2.toNat (zA s):Nat))∧Below w.heap.size w w':=by
 have HQ:Hid (∀ w' n,powL c1.toNat c2.toNat (zA s)=n→Below w.heap.size w w'→(fun (e:Ending) w'=>e=.returned (.int .i64 (powL c1.toNat c2.toNat (zA s):Nat))∧Below w.heap.size w w') (.returned (.int .i64 (n:Nat))) w'):=Hd fun w' n h h2=>⟨by rw [h],h2⟩
 generalize (fun (e:Ending) w'=>e=.returned (.int .i64 (powL c1.toNat c2.toNat (zA s):Nat))∧Below w.heap.size w w')=Q at *;by_cases h0:s.size=0
 ·have he:=zCk s h0;have hb:=zDi s h0;have HV:=Hd (show powL c1.toNat c2.toNat (zA s)=0 by rw [zXr s h0];rfl);go_enter Tryz.func204,Tryz.ntmps204;go_wp2_with fail;show Q (.returned (.int .i64 0)) _;exact HQ.out _ 0 HV.out (bR _ _)
 ·have hpos:0<s.size:=by omega
  have hpos':(0:Int)<s.size:=by omega
  have he:=zFi s hpos;have hb:=zGi s hpos;have y0:∀ h,((s[0]'h).toNat:Int)=(bt s 0:Int):=fun h=>by rw [xC s 0 h]
  have CI:∀ w,Calls Tryz.prog 166 #[.string ⟨#[c1,c2]⟩,.int .u8 (bt s 0:Int)] w fun e w'=>e=.returned (.int .i64 (if bt s 0=c1.toNat then 0 else if bt s 0=c2.toNat then 1 else -1))∧w=w':=fun w=>(Tryz.strings_IndexByte ⟨#[c1,c2]⟩ (bt s 0:Int) w).mono fun e w' ⟨h1,h2⟩=>by
   refine ⟨?_,h2.symm⟩;rw [h1];show Ending.returned (.int .i64 (Lib.indexByte [c1,c2] _))=_;rw [zUj];simp only [zXs]
  have hH:=zDh s hpos;by_cases hc:bt s 0=c1.toNat∨bt s 0=c2.toNat
  ·have HV:Hid (powL c1.toNat c2.toNat (zA s)=if 0<rowL 10 ((zA s).drop (signed (zA s))) then signed (zA s)+rowL 10 ((zA s).drop (signed (zA s))) else 0):=Hd (by
    unfold powL;rw [iP (by rw [hH];simpa using hc)])
   have CI2:Hid (∀ w,Calls Tryz.prog 166 #[.string ⟨#[c1,c2]⟩,.int .u8 (bt s 0:Int)] w fun e w'=>(e=.returned (.int .i64 0)∨e=.returned (.int .i64 1))∧w=w'):=Hd fun w=>(CI w).mono fun e w' ⟨h1,h2⟩=>by
    refine ⟨?_,h2⟩;rw [h1];by_cases h:bt s 0=c1.toNat
    ·rw [iP h];exact Or.inl rfl
    ·rw [iN h,iP (hc.resolve_left h)];exact Or.inr rfl
   clear CI hc hH;have CR:=Hd (fun k w=>vR (s.extract k s.size) 10 (by omega) (by rw [ByteArray.size_extract];omega) w);have hS:signed (zA s)=if 1<s.size∧(bt s 1=43∨bt s 1=45) then 2 else 1:=by
    unfold signed;by_cases h1:1<s.size
    ·rw [zAs s 1 h1];by_cases h2:bt s 1=43∨bt s 1=45
     ·rw [iP (by simpa using h2),iP ⟨h1,h2⟩]
     ·rw [iN (by simpa using h2),iN (fun h=>h2 h.2)]
    ·rw [zJm s 1 (by omega),iN (by simp),iN (fun h=>h1 h.1)]
   by_cases hsg:1<s.size∧(bt s 1=43∨bt s 1=45)
   ·rw [iP hsg] at hS;rw [hS] at HV;obtain ⟨h1,h2⟩:=hsg;have h1':(1:Int)<s.size:=by omega
    have h2':(2:Int)≤s.size:=by omega
    have y1:∀ h,((s[1]'h).toNat:Int)=(bt s 1:Int):=fun h=>by rw [xC s 1 h]
    have CR2:=Hd (CR.out 2);have hle:=kW 10 ((zA s).drop 2);rw [List.length_drop,zH] at hle;rw [yG] at CR2;clear CR hS;generalize rowL 10 ((zA s).drop 2)=k at *;generalize bt s 0=c at *;generalize bt s 1=d at *;rcases h2 with rfl | rfl;all_goals (
     go_enter Tryz.func204,Tryz.ntmps204;go_wp2_with fail;refine (CI2.out _).mono ?_;rintro e w1 ⟨he1,rfl⟩;rcases he1 with rfl | rfl;all_goals (
      go_wp2_with fail;refine (CR2.out _).mono ?_;rintro e w1 ⟨rfl,hb1⟩;have HB1:=Hd hb1;clear hb1;by_cases hk:0<k
      ·have hk':(0:Int)<k:=by omega
       go_wp2_with fail;show Q (.returned (.int .i64 (2+(k:Int)))) _;rw [show 2+(k:Int)=((2+k:Nat):Int) by omega];exact HQ.out _ _ (by rw [HV.out,iP hk]) HB1.out
      ·have hk':¬ (0:Int)<k:=by omega
       go_wp2_with fail;show Q (.returned (.int .i64 0)) _;exact HQ.out _ 0 (by rw [HV.out,iN hk]) HB1.out))
   ·rw [iN hsg] at hS;rw [hS] at HV;have CR2:=Hd (CR.out 1);have h1':(1:Int)≤s.size:=by omega
    have hle:=kW 10 ((zA s).drop 1);rw [List.length_drop,zH] at hle;rw [yG] at CR2;clear CR hS;generalize rowL 10 ((zA s).drop 1)=k at *;generalize bt s 0=c at *;by_cases h1:1<s.size
    ·have h1'':(1:Int)<s.size:=by omega
     have y1:∀ h,((s[1]'h).toNat:Int)=(bt s 1:Int):=fun h=>by rw [xC s 1 h]
     have g1:¬ (bt s 1:Int)=43:=fun h=>hsg ⟨h1,Or.inl (by omega)⟩
     have g2:¬ (bt s 1:Int)=45:=fun h=>hsg ⟨h1,Or.inr (by omega)⟩
     have g1b:((bt s 1:Int) == 43)=false:=by rw [bE];exact g1
     have g2b:((bt s 1:Int) == 45)=false:=by rw [bE];exact g2
     clear hsg;generalize bt s 1=d at *;go_enter Tryz.func204,Tryz.ntmps204;go_wp2_with fail;refine (CI2.out _).mono ?_;rintro e w1 ⟨he1,rfl⟩;rcases he1 with rfl | rfl;all_goals (
      go_wp2_with fail;refine (CR2.out _).mono ?_;rintro e w1 ⟨rfl,hb1⟩;have HB1:=Hd hb1;clear hb1;by_cases hk:0<k
      ·have hk':(0:Int)<k:=by omega
       go_wp2_with fail;show Q (.returned (.int .i64 (1+(k:Int)))) _;rw [show 1+(k:Int)=((1+k:Nat):Int) by omega];exact HQ.out _ _ (by rw [HV.out,iP hk]) HB1.out
      ·have hk':¬ (0:Int)<k:=by omega
       go_wp2_with fail;show Q (.returned (.int .i64 0)) _;exact HQ.out _ 0 (by rw [HV.out,iN hk]) HB1.out)
    ·have h1'':¬ (1:Int)<s.size:=by omega
     clear hsg;go_enter Tryz.func204,Tryz.ntmps204;go_wp2_with fail;refine (CI2.out _).mono ?_;rintro e w1 ⟨he1,rfl⟩;rcases he1 with rfl | rfl;all_goals (
      go_wp2_with fail;refine (CR2.out _).mono ?_;rintro e w1 ⟨rfl,hb1⟩;have HB1:=Hd hb1;clear hb1;by_cases hk:0<k
      ·have hk':(0:Int)<k:=by omega
       go_wp2_with fail;show Q (.returned (.int .i64 (1+(k:Int)))) _;rw [show 1+(k:Int)=((1+k:Nat):Int) by omega];exact HQ.out _ _ (by rw [HV.out,iP hk]) HB1.out
      ·have hk':¬ (0:Int)<k:=by omega
       go_wp2_with fail;show Q (.returned (.int .i64 0)) _;exact HQ.out _ 0 (by rw [HV.out,iN hk]) HB1.out)
  ·have HV:Hid (powL c1.toNat c2.toNat (zA s)=0):=Hd (by
    unfold powL;rw [iN (by rw [hH];simpa using hc)])
   have CI2:Hid (∀ w,Calls Tryz.prog 166 #[.string ⟨#[c1,c2]⟩,.int .u8 (bt s 0:Int)] w fun e w'=>e=.returned (.int .i64 (-1))∧w=w'):=Hd fun w=>(CI w).mono fun e w' ⟨h1,h2⟩=>by
    refine ⟨?_,h2⟩;rw [h1,iN (fun h=>hc (Or.inl h)),iN (fun h=>hc (Or.inr h))]
   clear CI hc hH;generalize bt s 0=c at *;go_enter Tryz.func204,Tryz.ntmps204;go_wp2_with fail;refine (CI2.out _).mono ?_;rintro e w1 ⟨rfl,rfl⟩;go_wp2_with fail;show Q (.returned (.int .i64 0)) _;exact HQ.out _ 0 HV.out (bR _ _)

theorem fP (c:UInt8) (l:List UInt8):Lib.hasPrefix l [c]=true↔l.head?=some c:=by
 unfold Lib.hasPrefix;cases l with
 | nil=>simp [List.isPrefixOf]
 | cons d t=>simp [List.isPrefixOf];exact eq_comm
def bareS (s:ByteArray):ByteArray:=⟨(Lib.trimPrefix s.data.toList [95]).toArray⟩
theorem zKy (s:ByteArray):s.data.toList.head?=some 95↔(zA s).head?=some 95:=by
 unfold zA;rw [List.head?_map];cases h:s.data.toList.head? with
 | none=>simp
 | some c =>
  simp only [Option.map_some,Option.some.injEq];constructor
  ·rintro rfl;rfl
  ·intro h;exact UInt8.toNat_inj.1 (by rw [h];rfl)
theorem zAx (s:ByteArray):zA (bareS s)=bare (zA s):=by
 unfold bareS bare Lib.trimPrefix;by_cases h:s.data.toList.head?=some 95
 ·rw [iP ((fP 95 _).2 h),iP ((zKy s).1 h)];unfold zA;try simp
 ·rw [iN (fun hh=>h ((fP 95 _).1 hh)),iN (fun hh=>h ((zKy s).2 hh))]
theorem zGj (s:ByteArray):(bareS s).size≤s.size:=by
 rw [← zH,← zH,zAx];unfold bare;split
 ·simp
 ·exact nR _
theorem zQs (b:Nat) (t:ByteArray):rowOK b (zA t)=(decide (0<t.size)&&decide (rowL b (zA t)=t.size)):=by
 rw [Bool.eq_iff_iff,zUl,zH];simp only [Bool.and_eq_true,decide_eq_true_eq];constructor
 ·rintro ⟨h1,h2⟩;refine ⟨?_,h2⟩;rw [← zH];exact List.length_pos_iff.2 h1
 ·rintro ⟨h1,h2⟩;refine ⟨?_,h2⟩;rw [← zH] at h1;exact List.length_pos_iff.1 h1
theorem fQ (s:ByteArray) (b:Nat) (hb:b≤16) (hs:s.size≤2147483647) (w:World) :
  Calls Tryz.prog 169 #[.string s,.int .i64 (b:Int)] w fun e w'=>e=.returned (.int .u8 (wholeL b (zA s):Nat))∧Below w.heap.size w w':=by
 have HQ:Hid (∀ w' n,wholeL b (zA s)=n→Below w.heap.size w w'→(fun (e:Ending) w'=>e=.returned (.int .u8 (wholeL b (zA s):Nat))∧Below w.heap.size w w') (.returned (.int .u8 (n:Nat))) w'):=Hd fun w' n h h2=>⟨by rw [h],h2⟩
 generalize (fun (e:Ending) w'=>e=.returned (.int .u8 (wholeL b (zA s):Nat))∧Below w.heap.size w w')=Q at *;have CT:Hid (∀ w,Calls Tryz.prog 203 #[.string s,.string ⟨#[95]⟩] w fun e w'=>e=.returned (.string (bareS s))∧w'=w):=Hd fun w=>Tryz.strings_TrimPrefix s ⟨#[95]⟩ w
 have HV:Hid (wholeL b (zA s)=if (decide (0<(bareS s).size)&&decide (rowL b (zA (bareS s))=(bareS s).size))=true then 3 else 0):=Hd (by
  unfold wholeL;rw [← zAx,zQs])
 have hsz:=zGj s;generalize bareS s=t at *;have CR:=Hd (vR t b hb (by omega));by_cases h0:t.size=0
 ·have he:=zCk t h0;have hb:=zDi t h0;go_enter Tryz.func169,Tryz.ntmps169;go_wp2_with fail;refine (CT.out _).mono ?_;rintro e w1 ⟨rfl,rfl⟩;go_wp2_with fail;show Q (.returned (.int .u8 0)) _;exact HQ.out _ 0 (by rw [HV.out];simp [h0]) (bR _ _)
 ·have hpos:0<t.size:=by omega
  have he:=zFi t hpos;have hb:=zGi t hpos;have hle:=kW b (zA t);generalize rowL b (zA t)=k at *;by_cases hk:k=t.size
  ·have hkb:((k:Int) == (t.size:Int))=true:=by rw [hk];simp
   go_enter Tryz.func169,Tryz.ntmps169;go_wp2_with fail;refine (CT.out _).mono ?_;rintro e w1 ⟨rfl,rfl⟩;go_wp2_with fail;refine (CR.out _).mono ?_;rintro e w1 ⟨rfl,hb1⟩;have HB1:=Hd hb1;have HV2:Hid (wholeL b (zA s)=3):=Hd (by rw [HV.out];simp [hk,hpos]);clear hb1 hk HV;go_wp2_with fail;show Q (.returned (.int .u8 3)) _;exact HQ.out _ 3 HV2.out HB1.out
  ·have hkb:((k:Int) == (t.size:Int))=false:=by rw [bE];omega
   go_enter Tryz.func169,Tryz.ntmps169;go_wp2_with fail;refine (CT.out _).mono ?_;rintro e w1 ⟨rfl,rfl⟩;go_wp2_with fail;refine (CR.out _).mono ?_;rintro e w1 ⟨rfl,hb1⟩;have HB1:=Hd hb1;have HV2:Hid (wholeL b (zA s)=0):=Hd (by rw [HV.out];simp [hk]);have hk':¬ (k:Int)=t.size:=by omega
   clear hb1 hk HV;go_wp2_with fail;show Q (.returned (.int .u8 0)) _;exact HQ.out _ 0 HV2.out HB1.out
end Go.Proofs.YtbjkdmbcpkopjaaGreatDoor
