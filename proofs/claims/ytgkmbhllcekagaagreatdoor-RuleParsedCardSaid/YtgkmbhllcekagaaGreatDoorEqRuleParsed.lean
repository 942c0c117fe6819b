/- A part of the proof: EqRuleParsed. -/
import Derived.Test.YtgkmbhllcekagaaGreatDoorP3
import Derived.Test.YtgkmbhllcekagaaGreatDoorOk
set_option linter.all false
/- RuleParsed, at every input. -/
namespace Go.Proofs.YtgkmbhllcekagaaGreatDoor.AM
open Go
theorem law10_RuleParsed_eq (l:List aK) (i:Int) (hl:(okL pV) l) (hi:(okI .i64) i):law10_RuleParsed l i=some true:=law10_RuleParsed_pl l i (Ia hl) (Og hi)
end Go.Proofs.YtgkmbhllcekagaaGreatDoor.AM
