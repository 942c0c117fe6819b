/- A part of the proof: EqEvalEmpty. -/
import Derived.Test.YtcpjmkbcefmldaaGreatDoorP2
import Derived.Test.YtcpjmkbcefmldaaGreatDoorOk
set_option linter.all false
/- EvalEmpty, at every input. -/
namespace Go.Proofs.YtcpjmkbcefmldaaGreatDoor.AM
open Go
theorem law19_EvalEmpty_eq (st : List GSeries) (T : List GTable) (t : Int) (h : okL okGSeries st) (_ : okL okGTable T) (_ : (okI .i64) t) : law19_EvalEmpty st T t = some true := law19_EvalEmpty_pl st T t (okL_len h) (okSt_each h)
end Go.Proofs.YtcpjmkbcefmldaaGreatDoor.AM
