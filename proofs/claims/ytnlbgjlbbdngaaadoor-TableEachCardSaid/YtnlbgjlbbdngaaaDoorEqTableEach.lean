/- A part of the proof: EqTableEach. -/
import Derived.Test.YtnlbgjlbbdngaaaDoorYl
import Derived.Test.YtnlbgjlbbdngaaaDoorOk
set_option linter.all false
/- TableEach, at every input. -/
namespace Go.Proofs.YtnlbgjlbbdngaaaDoor.AM
open Go
theorem law17_TableEach_eq (t : GTable) (f : List GFound) (l : List GPair) (now d u : Int) (h : okGTable t) (k : okL okGFound f) (kl : okL okGPair l) (_ : (okI .i64) now) (_ : (okI .i64) d) (_ : (okI .i64) u) : law17_TableEach t f l now d u = some true :=
  law17_TableEach_pl t f l now d u (okT_len h) (okT_each h) (okF_len k) (okF_each k) (okL_len kl)
end Go.Proofs.YtnlbgjlbbdngaaaDoor.AM
