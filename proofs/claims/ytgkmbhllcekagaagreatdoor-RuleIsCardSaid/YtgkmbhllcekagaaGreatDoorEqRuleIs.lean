/- A part of the proof: EqRuleIs. -/
import Derived.Test.YtgkmbhllcekagaaGreatDoorP3
import Derived.Test.YtgkmbhllcekagaaGreatDoorOk
set_option linter.all false
/- RuleIs, at every input. -/
namespace Go.Proofs.YtgkmbhllcekagaaGreatDoor.AM
open Go
theorem law10_RuleIs_eq (r:aZ) (l:List aK) (i:Int) (s:Str) (hr:qH r) (hl:(okL pV) l) (hi:(okI .i64) i) (_:okS s):law10_RuleIs r l i s=some true:=law10_RuleIs_pl r l i s (Cf hr) (Ia hl) (Og hi).2
end Go.Proofs.YtgkmbhllcekagaaGreatDoor.AM
