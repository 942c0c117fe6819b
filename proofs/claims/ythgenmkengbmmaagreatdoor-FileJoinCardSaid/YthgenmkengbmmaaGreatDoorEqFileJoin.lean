/- EqFileJoin -/
import Derived.Test.YthgenmkengbmmaaGreatDoorP3
import Derived.Test.YthgenmkengbmmaaGreatDoorOk
set_option linter.all false
namespace Go.Proofs.YthgenmkengbmmaaGreatDoor.AM
open Go
theorem law11_FileJoin_eq (s t:Str) (h:okS s) (k:okS t):law11_FileJoin s t=some true:=law11_FileJoin_pl s t (q9 h) (q9 k)
end Go.Proofs.YthgenmkengbmmaaGreatDoor.AM
