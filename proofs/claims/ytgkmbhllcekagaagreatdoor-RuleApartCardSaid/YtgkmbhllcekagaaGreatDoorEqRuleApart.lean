/- A part of the proof: EqRuleApart. -/
import Derived.Test.YtgkmbhllcekagaaGreatDoorP3
import Derived.Test.YtgkmbhllcekagaaGreatDoorOk
set_option linter.all false
/- RuleApart, at every input. -/
namespace Go.Proofs.YtgkmbhllcekagaaGreatDoor.AM
open Go
theorem law10_RuleApart_eq (a b:aZ) (d:Int) (ha:qH a) (hb:qH b) (_:(okI .i64) d):law10_RuleApart a b d=some true:=law10_RuleApart_pl a b d (Cf ha) (Cf hb)
end Go.Proofs.YtgkmbhllcekagaaGreatDoor.AM
