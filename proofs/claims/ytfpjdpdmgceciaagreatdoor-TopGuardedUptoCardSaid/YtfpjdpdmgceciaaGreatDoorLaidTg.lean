/- What this seat's rows list, and what the walks get of it: the two tables of unicode/utf8; a world that holds them. -/
import Derived.Test.YtfpjdpdmgceciaaGreatDoorRows
import Derived.Test.YtfpjdpdmgceciaaGreatDoorRunesTg
import Derived.ProofKit
import Derived.OpenShut
import Derived.ChangeOld
import Derived.Deep.DeepHandedRow
import Derived.Lib.LaidU8T
namespace Go.Proofs.YtfpjdpdmgceciaaGreatDoor
open Go.ChangeShapes Go.WideShapes Go.ChangeAt Go.RowKit
open Go.Lib (VarReads)
theorem own:ownKnob Tryz.prog.godebug=none:=Oa
theorem laidOut:laidOutB Tryz.prog=true:=Oa
def theList : List (String × DataW Unit) := [("unicode/utf8.acceptRanges", Rows.laid_unicode_utf8_acceptRanges), ("unicode/utf8.first", Rows.laid_unicode_utf8_first)]
theorem zZr:Rows.laid_unicode_utf8_first=Lib.firstData:=Oa
theorem zWe:Rows.laid_unicode_utf8_acceptRanges=Lib.acceptData:=Oa
theorem u8x:U8Extra Tryz.prog Tryz.lays197_ren:={ n3:=Oa,n4:=Oa,y3:=Oa,y4:=Oa,c5:=Oa,c119:=Oa,c138:=by kernel_rfl }
theorem u8t:U8Types Tryz.prog Tryz.lays197_ren:={ t5:=Oa,t119:=Oa,t138:=Oa,t139:=by kernel_rfl }
theorem zLx{w:World}{b o:Nat}{v:Value}(h:w.cell? ⟨b,o,none⟩=some v):b<w.heap.size:=by
 apply Classical.byContradiction;intro hn;unfold World.cell? at h;rw[Array.getElem?_eq_none (by simpa using hn)]at h;cases h
theorem tabs{W:World}(h:laidMet Tryz.prog theList W):Tabs W:=by
 suffices g:Lib.Utf8Tabs 1 2 W from⟨g,zLx (g.1 0 V),zLx (g.2 0 V).1⟩
 have h3 : VarReads Tryz.prog W "unicode/utf8.first" Lib.firstData := zZr ▸ Lib.laidMet.reads h (by simp [theList]);have h4 : VarReads Tryz.prog W "unicode/utf8.acceptRanges" Lib.acceptData := zWe ▸ Lib.laidMet.reads h (by simp [theList]);exact utf8Tabs_of_readsT u8t u8x h3 h4
theorem zRz{H:Type}{l:List (DataW H)}(hk:Rows.uptoSmall H l=true):Rows.uptoBulkAll l<=1048576:=of_decide_eq_true hk
def firstVals:Array Value:=((List.range 256).map λc=>Value.int .u8 (Lib.firstT c:Int)).toArray
def acceptVals:Array Value:=((List.range 16).flatMap λc=>[Value.int .u8 (Lib.accLo c:Int),Value.int .u8 (Lib.accHi c:Int)]).toArray
def laidRow(c:Array Value):Obj->Obj
 | .cells _ t frozen=>.cells c t frozen
 |o=>o
noncomputable def laidWorld(os:Os):World :=
 { World.holding Tryz.prog os ⟨#[],#[],[]⟩with heap:=((World.holding Tryz.prog os ⟨#[],#[],[]⟩).heap.modify 1 (laidRow firstVals)).modify 2 (laidRow acceptVals) }
theorem zZs(os:Os)(args:Array Value):laidMet Tryz.prog theList ((laidWorld os).forCall (λ_ _=>0) ⟨#[],args,[]⟩).memory :=
 laidMet_of_run' 8 Oa Oa
end Go.Proofs.YtfpjdpdmgceciaaGreatDoor
