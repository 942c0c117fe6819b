/- EqFileApart -/
import Derived.Test.YthgenmkengbmmaaGreatDoorP3
import Derived.Test.YthgenmkengbmmaaGreatDoorOk
set_option linter.all false
namespace Go.Proofs.YthgenmkengbmmaaGreatDoor.AM
open Go
theorem law11_FileApart_eq (a b:List aI) (h:(okL nU) a) (k:(okL nU) b):law11_FileApart a b=some true:=law11_FileApart_pl a b (GD h) (GD k)
end Go.Proofs.YthgenmkengbmmaaGreatDoor.AM
