/- A part of the proof: EqNotifyOnce. -/
import Derived.Test.YtchlojabjmlodaaGreatDoorP1
import Derived.Test.YtchlojabjmlodaaGreatDoorOk
set_option linter.all false
/- NotifyOnce, at every input. -/
namespace Go.Proofs.YtchlojabjmlodaaGreatDoor.AM
open Go
theorem law23_NotifyOnce_eq (x : List GTold) (T : List GTable) (t g : Int) (h : okL okGTold x) (k : okL okGTable T) (_ : (okI .i64) t) (_ : (okI .i64) g) : law23_NotifyOnce x T t g = some true :=
  law23_NotifyOnce_pl x T t g (okL_len h) (okX_each h) (okL_len k) (okTs_bd k)
end Go.Proofs.YtchlojabjmlodaaGreatDoor.AM
