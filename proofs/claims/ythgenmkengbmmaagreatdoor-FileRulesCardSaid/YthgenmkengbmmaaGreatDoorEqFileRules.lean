/- EqFileRules -/
import Derived.Test.YthgenmkengbmmaaGreatDoorP3
import Derived.Test.YthgenmkengbmmaaGreatDoorOk
set_option linter.all false
namespace Go.Proofs.YthgenmkengbmmaaGreatDoor.AM
open Go
theorem law11_FileRules_eq (f:List aI) (i k j:Int) (h:(okL nU) f) (_:okI .i64 i) (_:okI .i64 k) (_:okI .i64 j):law11_FileRules f i k j=some true:=law11_FileRules_pl f i k j (GD h)
end Go.Proofs.YthgenmkengbmmaaGreatDoor.AM
