/- A part of the proof: EqEvalMore. -/
import Derived.Test.YtcpjmkbcefmldaaGreatDoorP2
import Derived.Test.YtcpjmkbcefmldaaGreatDoorOk
set_option linter.all false
/- EvalMore, at every input. -/
namespace Go.Proofs.YtcpjmkbcefmldaaGreatDoor.AM
open Go
theorem law19_EvalMore_eq (st : List GSeries) (r : GRule) (t m : Int) (h : okL okGSeries st) (k : okGRule r) (_ : (okI .i64) t) (_ : (okI .i64) m) : law19_EvalMore st r t m = some true := law19_EvalMore_pl st r t m (okL_len h) (okSt_each h) (okR_m k) (okR_l k)
end Go.Proofs.YtcpjmkbcefmldaaGreatDoor.AM
