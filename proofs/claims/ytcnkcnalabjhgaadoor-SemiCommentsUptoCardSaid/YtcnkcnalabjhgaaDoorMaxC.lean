/- The variable internal/bytealg.MaxLen, out of the world's shape. -/
import Derived.Test.YtcnkcnalabjhgaaDoorLaid
import Derived.Test.YtcnkcnalabjhgaaDoorQuoted5
namespace Go.Proofs.YtcnkcnalabjhgaaDoor
set_option linter.all false
theorem maxC {W : World} (h : W.ShapedOpen Tryd.prog) : MaxC W := by
  obtain ⟨m, hm⟩ := Tryd.laysM155.s1_3 W h
  exact ⟨m, hm, cell_lt hm⟩
end Go.Proofs.YtcnkcnalabjhgaaDoor
