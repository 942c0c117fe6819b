/- A part of the proof: EqNotifyTells. -/
import Derived.Test.YtchlojabjmlodaaGreatDoorP1
import Derived.Test.YtchlojabjmlodaaGreatDoorOk
set_option linter.all false
/- NotifyTells, at every input. -/
namespace Go.Proofs.YtchlojabjmlodaaGreatDoor.AM
open Go
theorem law23_NotifyTells_eq (x : List GTold) (q : GQueue) (T : List GTable) (t g : Int) (h : okL okGTold x) (hq : okGQueue q) (k : okL okGTable T) (_ : (okI .i64) t) (_ : (okI .i64) g) : law23_NotifyTells x q T t g = some true :=
  law23_NotifyTells_pl x q T t g (okL_len h) (okX_each h) (okL_len hq.1) (okQ_each hq) (okL_len k) (okTs_bd k)
end Go.Proofs.YtchlojabjmlodaaGreatDoor.AM
