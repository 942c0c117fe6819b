/- A part of the proof: EqNotifyOrder. -/
import Derived.Test.YtchlojabjmlodaaGreatDoorP1
import Derived.Test.YtchlojabjmlodaaGreatDoorOk
set_option linter.all false
/- NotifyOrder, at every input. -/
namespace Go.Proofs.YtchlojabjmlodaaGreatDoor.AM
open Go
theorem law23_NotifyOrder_eq (x : List GTold) (q : GQueue) (a b : GTable) (t g : Int) (h : okL okGTold x) (hq : okGQueue q) (ha : okGTable a) (hb : okGTable b) (_ : (okI .i64) t) (_ : (okI .i64) g) : law23_NotifyOrder x q a b t g = some true :=
  law23_NotifyOrder_pl x q a b t g (okL_len h) (okX_each h) (okL_len hq.1) (okQ_each hq) (okT_bd ha) (okT_bd hb)
end Go.Proofs.YtchlojabjmlodaaGreatDoor.AM
