/- Layer 7: the program's functions, walked: One, All. -/
import Derived.Test.YtelfobnmiphdnaaGreatDoorScan5
namespace Go.Proofs.YtelfobnmiphdnaaGreatDoor
set_option linter.all false
open Go.RowKit

theorem TK.fill {W : World} {g : Nat} {k f t : Int} (h : TK W g k f t) (k' f' t' : Int) : TK (((W.setCell ⟨g, 0, none⟩ (.int .u8 k')).setCell ⟨g, 1, none⟩ (.int .i64 f')).setCell ⟨g, 2, none⟩ (.int .i64 t')) g k' f' t' := ((h.set0 _).set1 _).set2 _
theorem below_fill {w W : World} {g : Nat} (h : Below w.heap.size w W) (hg : w.heap.size ≤ g) (x y z : Value) : Below w.heap.size w (((W.setCell ⟨g, 0, none⟩ x).setCell ⟨g, 1, none⟩ y).setCell ⟨g, 2, none⟩ z) :=
  ((h.setCell (p := ⟨g, 0, none⟩) hg x).setCell (p := ⟨g, 1, none⟩) hg y).setCell (p := ⟨g, 2, none⟩) hg z
theorem runeStart_lead : ∀ c : Nat, c < 256 → Lib.runeStart (c : Int) = decide (c / 64 ≠ 2) := by decide +kernel
/-- What One answers. -/
def oneZ (s : ByteArray) (at' : Int) : Int × Int × Int × Int :=
  if at' < 0 ∨ (s.size : Int) ≤ at' then (0, 0, 0, 1) else if 0 ≤ clean s ∨ bt s at'.toNat / 64 = 2 then (0, 0, 0, 3) else nextZ s at'.toNat
end Go.Proofs.YtelfobnmiphdnaaGreatDoor
