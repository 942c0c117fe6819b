/- Bd -/
import Derived.Test.YthgenmkengbmmaaGreatDoorCX1
import Derived.Test.YthgenmkengbmmaaGreatDoorProg
import Derived.Lib.Builder
import Derived.Lib.UnsafeStr
import Derived.Laws.Externs
import Derived.Shelf.RegionOpenPlain
set_option linter.all false
namespace Go.Proofs.YthgenmkengbmmaaGreatDoor.AM

open Go Go.RowKit Go.Proofs Go.Lib
end Go.Proofs.YthgenmkengbmmaaGreatDoor.AM
