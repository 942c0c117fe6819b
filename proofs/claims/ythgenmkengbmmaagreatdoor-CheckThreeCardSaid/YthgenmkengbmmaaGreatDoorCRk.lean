/- Rk -/
import Derived.Test.YthgenmkengbmmaaGreatDoorCGo
import Derived.Test.YthgenmkengbmmaaGreatDoorCRj
set_option linter.all false
namespace Go.Proofs.YthgenmkengbmmaaGreatDoor.AM
open Go Go.Proofs
set_option maxRecDepth 20000
set_option maxHeartbeats 4000000
end Go.Proofs.YthgenmkengbmmaaGreatDoor.AM
