/- EqFileBack -/
import Derived.Test.YthgenmkengbmmaaGreatDoorP3
import Derived.Test.YthgenmkengbmmaaGreatDoorOk
set_option linter.all false
namespace Go.Proofs.YthgenmkengbmmaaGreatDoor.AM
open Go
theorem law11_FileBack_eq (f:List aI) (h:(okL nU) f):law11_FileBack f=some true:=law11_FileBack_pl f (GD h)
end Go.Proofs.YthgenmkengbmmaaGreatDoor.AM
