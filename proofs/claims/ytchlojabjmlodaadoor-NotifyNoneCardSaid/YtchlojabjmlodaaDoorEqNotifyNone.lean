/- A part of the proof: EqNotifyNone. -/
import Derived.Test.YtchlojabjmlodaaDoorP1
import Derived.Test.YtchlojabjmlodaaDoorOk
set_option linter.all false
/- NotifyNone, at every input. -/
namespace Go.Proofs.YtchlojabjmlodaaDoor.AM
open Go
theorem law23_NotifyNone_eq (x : List GTold) (t g : Int) (h : okL okGTold x) (_ : (okI .i64) t) (_ : (okI .i64) g) : law23_NotifyNone x t g = some true :=
  law23_NotifyNone_pl x t g (okL_len h) (okX_each h)
end Go.Proofs.YtchlojabjmlodaaDoor.AM
