/- A part of the proof: EqRuleBack. -/
import Derived.Test.YtgkmbhllcekagaaGreatDoorP3
import Derived.Test.YtgkmbhllcekagaaGreatDoorOk
set_option linter.all false
/- RuleBack, at every input. -/
namespace Go.Proofs.YtgkmbhllcekagaaGreatDoor.AM
open Go
theorem law10_RuleBack_eq (r:aZ) (l:List aK) (hr:qH r) (hl:(okL pV) l):law10_RuleBack r l=some true:=law10_RuleBack_pl r l (Cf hr) (Ia hl)
end Go.Proofs.YtgkmbhllcekagaaGreatDoor.AM
