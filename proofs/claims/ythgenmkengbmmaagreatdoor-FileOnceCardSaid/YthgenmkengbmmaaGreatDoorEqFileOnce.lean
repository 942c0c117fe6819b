/- EqFileOnce -/
import Derived.Test.YthgenmkengbmmaaGreatDoorP3
import Derived.Test.YthgenmkengbmmaaGreatDoorOk
set_option linter.all false
namespace Go.Proofs.YthgenmkengbmmaaGreatDoor.AM
open Go
theorem law11_FileOnce_eq (s:Str) (h:okS s):law11_FileOnce s=some true:=law11_FileOnce_pl s (q9 h)
end Go.Proofs.YthgenmkengbmmaaGreatDoor.AM
