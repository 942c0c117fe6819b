/- A part of the proof: EqEvalWrites. -/
import Derived.Test.YtcpjmkbcefmldaaGreatDoorP2
import Derived.Test.YtcpjmkbcefmldaaGreatDoorOk
set_option linter.all false
/- EvalWrites, at every input. -/
namespace Go.Proofs.YtcpjmkbcefmldaaGreatDoor.AM
open Go
theorem law19_EvalWrites_eq (st : List GSeries) (x : GTable) (t : Int) (h : okL okGSeries st) (k : okGTable x) (_ : (okI .i64) t) : law19_EvalWrites st x t = some true := law19_EvalWrites_pl st x t (okL_len h) (okSt_each h) (okT_bd k)
end Go.Proofs.YtcpjmkbcefmldaaGreatDoor.AM
