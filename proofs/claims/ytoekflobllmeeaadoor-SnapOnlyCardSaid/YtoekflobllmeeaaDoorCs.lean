/- A part of the proof: Cs. -/
import Derived.Test.YtoekflobllmeeaaDoorX2
import Derived.Shelf.Small.Strs
import Derived.Test.YtoekflobllmeeaaDoorProg
set_option linter.all false
/- Texts compared: the library's own. -/
namespace Go.Proofs.YtoekflobllmeeaaDoor.AM
open Go Go.Shelf Go.Proofs
def cmpLay_ren : Go.Shelf.Ren := ⟨fun | 213 => 61 | 265 => 71 | n => n, fun n => n, fun n => n⟩
theorem cmpLay : Lays.n213 Tryd.prog cmpLay_ren := {
  mixed := by kernel_rfl
  f213 := Tryd.func61.trans (congrArg some (by kernel_rfl))
  f265 := Tryd.func71.trans (congrArg some (by kernel_rfl))
  t3 := Tryd.underlying3
  a3 := Tryd.isAgg3
  z3 := Tryd.sizeOf3
  v3 := Tryd.zeroValue3
  t9 := Tryd.underlying9
  a9 := Tryd.isAgg9
  z9 := Tryd.sizeOf9
  v9 := Tryd.zeroValue9 }
theorem bytealg_CompareString_run {a b : Str} {r : Int} (h : bytealg_CompareString a b = some r) : Fun Tryd.prog 61 [vS a, vS b] (vI r) [] := by
  cases h
  exact Fun.of_calls2 (fun w => Any.bytealg_CompareString cmpLay (bs a) (bs b) w) rfl
end Go.Proofs.YtoekflobllmeeaaDoor.AM
