/- The variable internal/bytealg.MaxLen, out of the world's shape. -/
import Derived.Test.YtfpjdpdmgceciaaGreatDoorLaidTg
import Derived.Test.YtfpjdpdmgceciaaGreatDoorQuoted5Tg
namespace Go.Proofs.YtfpjdpdmgceciaaGreatDoor
set_option linter.all false
theorem maxC{W:World}(h:W.ShapedOpen Tryz.prog):MaxC W:=by
 obtain⟨m,hm⟩:=Tryz.laysM155.s1_3 W h;exact⟨m,hm,zLx hm⟩
end Go.Proofs.YtfpjdpdmgceciaaGreatDoor
