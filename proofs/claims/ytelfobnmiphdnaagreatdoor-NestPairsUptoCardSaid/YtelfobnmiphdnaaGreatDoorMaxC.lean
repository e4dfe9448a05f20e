/- The variable internal/bytealg.MaxLen, out of the world's shape. -/
import Derived.Test.YtelfobnmiphdnaaGreatDoorLaid
import Derived.Test.YtelfobnmiphdnaaGreatDoorQuoted5
namespace Go.Proofs.YtelfobnmiphdnaaGreatDoor
set_option linter.all false
theorem maxC {W : World} (h : W.ShapedOpen Tryz.prog) : MaxC W := by
  obtain ⟨m, hm⟩ := Tryz.laysM155.s1_3 W h
  exact ⟨m, hm, cell_lt hm⟩
end Go.Proofs.YtelfobnmiphdnaaGreatDoor
