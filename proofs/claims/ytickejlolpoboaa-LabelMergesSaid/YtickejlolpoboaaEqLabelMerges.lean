/- A part of the proof: EqLabelMerges. -/
import Derived.Test.YtickejlolpoboaaP
import Derived.Test.YtickejlolpoboaaOk
set_option linter.all false
/- LabelMerges, at every input. -/
namespace Go.Proofs.Ytickejlolpoboaa.AM
open Go
theorem law03_LabelMerges_eq (a b : List GPair) (n : Str) (h : okL okGPair a) (k : okL okGPair b) (_ : okS n) : law03_LabelMerges a b n = some true :=
  law03_LabelMerges_pl a b n (by have := h.1; simpa [maxLen] using this) (by have := k.1; simpa [maxLen] using this)
end Go.Proofs.Ytickejlolpoboaa.AM
