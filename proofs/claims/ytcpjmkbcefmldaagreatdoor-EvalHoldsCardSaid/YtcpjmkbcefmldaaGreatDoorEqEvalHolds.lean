/- A part of the proof: EqEvalHolds. -/
import Derived.Test.YtcpjmkbcefmldaaGreatDoorP2
import Derived.Test.YtcpjmkbcefmldaaGreatDoorOk
set_option linter.all false
/- EvalHolds, at every input. -/
namespace Go.Proofs.YtcpjmkbcefmldaaGreatDoor.AM
open Go
theorem law19_EvalHolds_eq (st : List GSeries) (r : GRule) (t : Int) (h : okL okGSeries st) (k : okGRule r) (_ : (okI .i64) t) : law19_EvalHolds st r t = some true := law19_EvalHolds_pl st r t (okL_len h) (okSt_each h) (okR_m k) (okR_l k)
end Go.Proofs.YtcpjmkbcefmldaaGreatDoor.AM
