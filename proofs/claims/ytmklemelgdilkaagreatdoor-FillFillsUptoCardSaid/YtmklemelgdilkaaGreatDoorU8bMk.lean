/- Layer 1 in plain Lean, further: forms are read as they are; texts one behind the other; characters and texts, there and back. -/
import Derived.Test.YtmklemelgdilkaaGreatDoorU8Mk
import Derived.Laws.Concat
namespace Go.Proofs.YtmklemelgdilkaaGreatDoor

theorem size_data (s:ByteArray):s.size=s.data.toList.length:=(Array.length_toList (xs:=s.data)).symm
theorem get!_list (s:ByteArray) (i:Nat):s.get! i=s.data.toList.getD i 0:=by
 by_cases h:i<s.size
 ·rw [get!_lt s i h]
  have h2:i<s.data.toList.length:=by rw [← size_data];exact h
  rw [List.getD_eq_getElem?_getD,List.getElem?_eq_getElem h2];rfl
 ·rw [get!_ge s i (by omega),List.getD_eq_getElem?_getD,List.getElem?_eq_none (by rw [← size_data];omega)];rfl
theorem data_append (s t:ByteArray):(s++t).data.toList=s.data.toList++t.data.toList:=by
 simp [ByteArray.data_append]
theorem form_size (r:Int):(form r).size=(formZ r).length:=by unfold form;exact strOfNums_size _
theorem form_pos {r:Int} (hm:may r=true):1≤(form r).size:=by
 rw [form_size];unfold formZ;rw [if_neg (by simp [hm])]
 repeat' split
 all_goals simp

end Go.Proofs.YtmklemelgdilkaaGreatDoor
namespace Go.Proofs.YtmklemelgdilkaaGreatDoor

def letterRanges:List (Nat×Nat):=[(0x41,0x5A),(0x5F,0x5F),(0x61,0x7A),(0xAA,0xAA),(0xB5,0xB5),(0xBA,0xBA),(0xC0,0xD6),(0xD8,0xF6),(0xF8,0x2C1),(0x370,0x373),(0x376,0x377),(0x37B,0x37D),(0x386,0x386),(0x388,0x38A),(0x38C,0x38C),(0x38E,0x3A1),(0x3A3,0x3F5),(0x400,0x481),(0x48A,0x52F),(0x531,0x556),(0x561,0x587),(0x5D0,0x5EA),(0x620,0x64A),(0x904,0x939),(0xE01,0xE30),(0x10A0,0x10C5),(0x1E00,0x1F15),(0x3041,0x3096),(0x30A1,0x30FA),(0x4E00,0x9FFF),(0xAC00,0xD7A3),(0x10400,0x1044F),(0x20000,0x2A6DF)]
def digitRanges:List (Nat×Nat):=[(0x30,0x39),(0x660,0x669),(0x966,0x96F),(0xE50,0xE59),(0xFF10,0xFF19)]
def inR (l:List (Nat×Nat)) (r:Int):Bool:=l.any fun p=>decide ((p.1:Int)≤r)&&decide (r≤(p.2:Int))
@[irreducible] def letter (r:Int):Bool:=inR letterRanges r
@[irreducible] def digit (r:Int):Bool:=inR digitRanges r
def frm (l:List (Nat×Nat)) (i:Nat):Nat:=(l.getD i (0,0)).1
def too (l:List (Nat×Nat)) (i:Nat):Nat:=(l.getD i (0,0)).2
theorem inR_at (l:List (Nat×Nat)) (r:Int) (i:Nat) (hi:i<l.length) (h1:(frm l i:Int)≤r) (h2:r≤(too l i:Int)):inR l r=true:=by
 unfold inR
 rw [List.any_eq_true]
 refine ⟨l[i],List.getElem_mem hi,?_⟩
 unfold frm at h1;unfold too at h2
 rw [List.getD_eq_getElem?_getD,List.getElem?_eq_getElem hi] at h1 h2
 simp at h1 h2 ⊢
 exact ⟨h1,h2⟩
theorem inR_none (l:List (Nat×Nat)) (r:Int) (h:∀ i,i<l.length→r<(frm l i:Int)∨(too l i:Int)<r):inR l r=false:=by
 unfold inR
 rw [List.any_eq_false]
 intro p hp
 obtain ⟨i,hi,rfl⟩:=List.getElem_of_mem hp
 have:=h i hi
 unfold frm too at this
 rw [List.getD_eq_getElem?_getD,List.getElem?_eq_getElem hi] at this
 simp at this ⊢
 omega
theorem letters_sorted:∀ i,i<33→∀ j,j<33→i≤j→frm letterRanges i≤frm letterRanges j∧too letterRanges i≤too letterRanges j:=by decide +kernel
theorem letters_small:∀ i,i<33→frm letterRanges i≤too letterRanges i∧too letterRanges i<1114112:=by decide +kernel
def words:List (List UInt8):=[[98,114,101,97,107],[99,97,115,101],[99,104,97,110],[99,111,110,115,116],[99,111,110,116,105,110,117,101],[100,101,102,97,117,108,116],[100,101,102,101,114],[101,108,115,101],[102,97,108,108,116,104,114,111,117,103,104],[102,111,114],[102,117,110,99],[103,111],[103,111,116,111],[105,102],[105,109,112,111,114,116],[105,110,116,101,114,102,97,99,101],[109,97,112],[112,97,99,107,97,103,101],[114,97,110,103,101],[114,101,116,117,114,110],[115,101,108,101,99,116],[115,116,114,117,99,116],[115,119,105,116,99,104],[116,121,112,101],[118,97,114]]
def word (s:ByteArray):Bool:=words.any fun w=>s.toList == w
def base (r:Int):Int:=if 48≤r∧r≤57 then r-48 else if 97≤r∧r≤102 then r-97+10 else if 65≤r∧r≤70 then r-65+10 else -1
def chk:Bool→List Int→Bool
 | _,[]=>true
 | first,x::l=>(letter x || (!first&&digit x))&&chk false l
@[irreducible] def name (s:ByteArray):Bool:=!s.toList.isEmpty&&!word s&&decide (bad s<0)&&chk true ((chars s).map fun (n:Nat)=>(n:Int))
end Go.Proofs.YtmklemelgdilkaaGreatDoor
