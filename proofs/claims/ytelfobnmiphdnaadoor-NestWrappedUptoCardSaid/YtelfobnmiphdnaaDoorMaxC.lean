/- The variable internal/bytealg.MaxLen, out of the world's shape. -/
import Derived.Test.YtelfobnmiphdnaaDoorLaid
import Derived.Test.YtelfobnmiphdnaaDoorQuoted5
namespace Go.Proofs.YtelfobnmiphdnaaDoor
set_option linter.all false
theorem maxC {W : World} (h : W.ShapedOpen Tryd.prog) : MaxC W := by
  obtain ⟨m, hm⟩ := Tryd.laysM155.s1_3 W h
  exact ⟨m, hm, cell_lt hm⟩
end Go.Proofs.YtelfobnmiphdnaaDoor
