/- A part of the proof: EqRuleNames. -/
import Derived.Test.YtgkmbhllcekagaaGreatDoorP3
import Derived.Test.YtgkmbhllcekagaaGreatDoorOk
set_option linter.all false
/- RuleNames, at every input. -/
namespace Go.Proofs.YtgkmbhllcekagaaGreatDoor.AM
open Go
theorem law10_RuleNames_eq (r:aZ) (k:Int) (v:Str) (hr:qH r) (_:(okI .i64) k) (_:okS v):law10_RuleNames r k v=some true:=law10_RuleNames_pl r k v (Cf hr)
end Go.Proofs.YtgkmbhllcekagaaGreatDoor.AM
