/- A part of the proof: EqTableKeeps. -/
import Derived.Test.YtnlbgjlbbdngaaaDoorYk
import Derived.Test.YtnlbgjlbbdngaaaDoorOk
set_option linter.all false
/- TableKeeps, at every input. -/
namespace Go.Proofs.YtnlbgjlbbdngaaaDoor.AM
open Go
theorem law17_TableKeeps_eq (t : GTable) (f : List GFound) (now d u : Int) (h : okGTable t) (k : okL okGFound f) (_ : (okI .i64) now) (_ : (okI .i64) d) (_ : (okI .i64) u) : law17_TableKeeps t f now d u = some true :=
  law17_TableKeeps_pl t f now d u (okT_len h) (okT_each h) (okF_len k) (okF_each k)
end Go.Proofs.YtnlbgjlbbdngaaaDoor.AM
