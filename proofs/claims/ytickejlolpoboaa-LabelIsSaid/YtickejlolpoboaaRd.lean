/- A part of the proof: Ru3. -/
import Derived.Test.YtickejlolpoboaaGo
import Derived.Test.YtickejlolpoboaaRa
import Derived.Test.YtickejlolpoboaaRb
import Derived.Test.YtickejlolpoboaaRc
set_option linter.all false
/- The functions run as their models. -/
namespace Go.Proofs.Ytickejlolpoboaa.AM
open Go Go.Proofs
set_option maxRecDepth 20000
set_option maxHeartbeats 4000000

theorem en_law03_LabelIs : enters Try.prog 8 = true := by kernel_rfl
theorem law03_LabelIs_run {a0 : (List GPair)} {a1 : (List GPair)} {a2 : Str} {a3 : Str} {r : Bool} (hm : law03_LabelIs a0 a1 a2 a3 = some r) : Fun Try.prog 8 [(sl cGPair) a0, (sl cGPair) a1, vS a2, vS a3] (vB r) [] := by
  have c1 := @law03_awake_run; have e1 := en_law03_awake
  have c2 := @ref03_Few_run; have e2 := en_ref03_Few
  have c3 := @label_Make_run; have e3 := en_label_Make
  have c4 := @label_Sane_run; have e4 := en_label_Sane
  have c5 := @label_Get_run; have e5 := en_label_Get
  have c6 := @ref03_Same_run; have e6 := en_ref03_Same
  have c7 := @label_Compare_run; have e7 := en_label_Compare
  have c8 := @label_Merge_run; have e8 := en_label_Merge
  have c9 := @label_Name_run; have e9 := en_label_Name
  have c10 := @ref03_Make_run; have e10 := en_ref03_Make
  have c11 := @ref03_Get_run; have e11 := en_ref03_Get
  have c12 := @label_With_run; have e12 := en_label_With
  have c13 := @ref03_With_run; have e13 := en_ref03_With
  have c14 := @ref03_Merge_run; have e14 := en_ref03_Merge
  have c15 := @ref03_Name_run; have e15 := en_ref03_Name
  have c16 := @ref03_Sane_run; have e16 := en_ref03_Sane
  have c17 := @label_Without_run; have e17 := en_label_Without
  have c18 := @ref03_Without_run; have e18 := en_ref03_Without
  have c19 := @ref03_Compare_run; have e19 := en_ref03_Compare
  refine Fun.of_model (X := fun r => vB r) (O := fun r => []) Try.func8 rfl (Nat.le_of_ble_eq_true (by kernel_rfl)) hm ?_
  simp only [Try.ntmps8, Try.results8, argsO]
  unfold law03_LabelIs
  clear hm
  exact walk

theorem en_law03_LabelWith : enters Try.prog 9 = true := by kernel_rfl
theorem law03_LabelWith_run {a0 : (List GPair)} {a1 : Str} {a2 : Str} {a3 : Str} {r : Bool} (hm : law03_LabelWith a0 a1 a2 a3 = some r) : Fun Try.prog 9 [(sl cGPair) a0, vS a1, vS a2, vS a3] (vB r) [] := by
  have c1 := @law03_awake_run; have e1 := en_law03_awake
  have c2 := @ref03_Few_run; have e2 := en_ref03_Few
  have c3 := @label_Sane_run; have e3 := en_label_Sane
  have c4 := @label_Get_run; have e4 := en_label_Get
  have c5 := @ref03_Same_run; have e5 := en_ref03_Same
  have c6 := @label_Name_run; have e6 := en_label_Name
  have c7 := @label_With_run; have e7 := en_label_With
  have c8 := @label_Without_run; have e8 := en_label_Without
  refine Fun.of_model (X := fun r => vB r) (O := fun r => []) Try.func9 rfl (Nat.le_of_ble_eq_true (by kernel_rfl)) hm ?_
  simp only [Try.ntmps9, Try.results9, argsO]
  unfold law03_LabelWith
  clear hm
  exact walk

end Go.Proofs.Ytickejlolpoboaa.AM
