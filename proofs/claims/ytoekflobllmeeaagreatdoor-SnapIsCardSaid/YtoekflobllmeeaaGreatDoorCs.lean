/- A part of the proof: Cs. -/
import Derived.Test.YtoekflobllmeeaaGreatDoorX2
import Derived.Shelf.Small.Strs
import Derived.Test.YtoekflobllmeeaaGreatDoorProg
set_option linter.all false
/- Texts compared: the library's own. -/
namespace Go.Proofs.YtoekflobllmeeaaGreatDoor.AM
open Go Go.Shelf Go.Proofs
def cmpLay_ren : Go.Shelf.Ren := ⟨fun | 213 => 92 | 265 => 104 | n => n, fun n => n, fun n => n⟩
theorem cmpLay : Lays.n213 Tryz.prog cmpLay_ren := {
  mixed := by kernel_rfl
  f213 := Tryz.func92.trans (congrArg some (by kernel_rfl))
  f265 := Tryz.func104.trans (congrArg some (by kernel_rfl))
  t3 := Tryz.underlying3
  a3 := Tryz.isAgg3
  z3 := Tryz.sizeOf3
  v3 := Tryz.zeroValue3
  t9 := Tryz.underlying9
  a9 := Tryz.isAgg9
  z9 := Tryz.sizeOf9
  v9 := Tryz.zeroValue9 }
theorem bytealg_CompareString_run {a b : Str} {r : Int} (h : bytealg_CompareString a b = some r) : Fun Tryz.prog 92 [vS a, vS b] (vI r) [] := by
  cases h
  exact Fun.of_calls2 (fun w => Any.bytealg_CompareString cmpLay (bs a) (bs b) w) rfl
end Go.Proofs.YtoekflobllmeeaaGreatDoor.AM
