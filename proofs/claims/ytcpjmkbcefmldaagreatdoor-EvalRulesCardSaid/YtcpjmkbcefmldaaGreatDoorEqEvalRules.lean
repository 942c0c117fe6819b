/- A part of the proof: EqEvalRules. -/
import Derived.Test.YtcpjmkbcefmldaaGreatDoorP2
import Derived.Test.YtcpjmkbcefmldaaGreatDoorOk
set_option linter.all false
/- EvalRules, at every input. -/
namespace Go.Proofs.YtcpjmkbcefmldaaGreatDoor.AM
open Go
theorem law19_EvalRules_eq (st : List GSeries) (g : GGroup) (T : List GTable) (t k : Int) (h : okL okGSeries st) (hg : okGGroup g) (hT : okL okGTable T) (_ : (okI .i64) t) (_ : (okI .i64) k) : law19_EvalRules st g T t k = some true := law19_EvalRules_pl st g T t k (okL_len h) (okSt_each h) (okL_len hg.2.2.2) (okG_each hg) (okL_len hT) (okTs_bd hT)
end Go.Proofs.YtcpjmkbcefmldaaGreatDoor.AM
