/- A part of the proof: EqLabelCut. -/
import Derived.Test.YtickejlolpoboaaP
import Derived.Test.YtickejlolpoboaaOk
set_option linter.all false
/- LabelCut, at every input. -/
namespace Go.Proofs.Ytickejlolpoboaa.AM
open Go
theorem law03_LabelCut_eq (l : List GPair) (k : Int) (h : okL okGPair l) (_ : okI .i64 k) : law03_LabelCut l k = some true :=
  law03_LabelCut_pl l k (by have := h.1; simpa [maxLen] using this)
end Go.Proofs.Ytickejlolpoboaa.AM
