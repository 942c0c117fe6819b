/- A part of the proof: Ru0. -/
import Derived.Test.YtoekflobllmeeaaDoorGo
set_option linter.all false
/- The functions run as their models. -/
namespace Go.Proofs.YtoekflobllmeeaaDoor.AM
open Go Go.Proofs
set_option maxRecDepth 20000
set_option maxHeartbeats 4000000

theorem en_label_Name : enters Tryd.prog 13 = true := by kernel_rfl
theorem label_Name_run {a0 : Str} {r : Bool} (hm : label_Name a0 = some r) : Fun Tryd.prog 13 [vS a0] (vB r) [] := by
  refine Fun.of_model (X := fun r => vB r) (O := fun r => []) Tryd.func13 rfl (Nat.le_of_ble_eq_true (by kernel_rfl)) hm ?_
  simp only [Tryd.ntmps13, Tryd.results13, argsO]
  unfold label_Name
  clear hm
  exact walk

theorem en_label_Sane : enters Tryd.prog 33 = true := by kernel_rfl
theorem label_Sane_run {a0 : (List GPair)} {r : Bool} (hm : label_Sane a0 = some r) : Fun Tryd.prog 33 [(sl cGPair) a0] (vB r) [] := by
  have c1 := @label_Name_run
  have e1 := en_label_Name
  refine Fun.of_model (X := fun r => vB r) (O := fun r => []) Tryd.func33 rfl (Nat.le_of_ble_eq_true (by kernel_rfl)) hm ?_
  simp only [Tryd.ntmps33, Tryd.results33, argsO]
  unfold label_Sane
  clear hm
  exact walk

theorem en_hold_time : enters Tryd.prog 56 = true := by kernel_rfl
theorem hold_time_run {a0 : Int} {r : Bool} (hm : hold_time a0 = some r) : Fun Tryd.prog 56 [vI a0] (vB r) [] := by
  refine Fun.of_model (X := fun r => vB r) (O := fun r => []) Tryd.func56 rfl (Nat.le_of_ble_eq_true (by kernel_rfl)) hm ?_
  simp only [Tryd.ntmps56, Tryd.results56, argsO]
  unfold hold_time
  clear hm
  exact walk

theorem en_hold_Sane : enters Tryd.prog 34 = true := by kernel_rfl
theorem hold_Sane_run {a0 : GHold} {r : Bool} (hm : hold_Sane a0 = some r) : Fun Tryd.prog 34 [(ag cGHold) a0] (vB r) [] := by
  have c1 := @hold_time_run
  have e1 := en_hold_time
  refine Fun.of_model (X := fun r => vB r) (O := fun r => []) Tryd.func34 rfl (Nat.le_of_ble_eq_true (by kernel_rfl)) hm ?_
  simp only [Tryd.ntmps34, Tryd.results34, argsO, ag, cGHold, List.map, AV.ofD]
  unfold hold_Sane
  clear hm
  exact walk

theorem en_label_counts : enters Tryd.prog 58 = true := by kernel_rfl
theorem label_counts_run {a0 : (List GPair)} {r : (List GPair)} (hm : label_counts a0 = some r) : Fun Tryd.prog 58 [(sl cGPair) a0] ((sl cGPair) r) [] := by
  have c1 := @label_Sane_run
  have e1 := en_label_Sane
  refine Fun.of_model (X := fun r => (sl cGPair) r) (O := fun r => []) Tryd.func58 rfl (Nat.le_of_ble_eq_true (by kernel_rfl)) hm ?_
  simp only [Tryd.ntmps58, Tryd.results58, argsO]
  unfold label_counts
  clear hm
  exact walk

theorem en_cmp_isNaN_string : enters Tryd.prog 70 = true := by kernel_rfl
theorem cmp_isNaN_string_run {a0 : Str} {r : Bool} (hm : cmp_isNaN_string a0 = some r) : Fun Tryd.prog 70 [vS a0] (vB r) [] := by
  refine Fun.of_model (X := fun r => vB r) (O := fun r => []) Tryd.func70 rfl (Nat.le_of_ble_eq_true (by kernel_rfl)) hm ?_
  simp only [Tryd.ntmps70, Tryd.results70, argsO]
  unfold cmp_isNaN_string
  clear hm
  exact walk

theorem en_cmp_Compare_string : enters Tryd.prog 60 = true := by kernel_rfl
theorem cmp_Compare_string_run {a0 : Str} {a1 : Str} {r : Int} (hm : cmp_Compare_string a0 a1 = some r) : Fun Tryd.prog 60 [vS a0, vS a1] (vI r) [] := by
  have c1 := @cmp_isNaN_string_run
  have e1 := en_cmp_isNaN_string
  refine Fun.of_model (X := fun r => vI r) (O := fun r => []) Tryd.func60 rfl (Nat.le_of_ble_eq_true (by kernel_rfl)) hm ?_
  simp only [Tryd.ntmps60, Tryd.results60, argsO]
  unfold cmp_Compare_string
  clear hm
  exact walk

theorem en_cmp_Or_int : enters Tryd.prog 36 = true := by kernel_rfl
theorem cmp_Or_int_run {a0 : (List Int)} {r : Int} (hm : cmp_Or_int a0 = some r) : Fun Tryd.prog 36 [(sl cI) a0] (vI r) [] := by
  refine Fun.of_model (X := fun r => vI r) (O := fun r => []) Tryd.func36 rfl (Nat.le_of_ble_eq_true (by kernel_rfl)) hm ?_
  simp only [Tryd.ntmps36, Tryd.results36, argsO]
  unfold cmp_Or_int
  clear hm
  exact walk

theorem en_label_Compare_1 : enters Tryd.prog 59 = true := by kernel_rfl
theorem label_Compare_1_run {a0 : GPair} {a1 : GPair} {r : Int} (hm : label_Compare_1 a0 a1 = some r) : Fun Tryd.prog 59 [(ag cGPair) a0, (ag cGPair) a1] (vI r) [] := by
  have c1 := @cmp_Or_int_run
  have e1 := en_cmp_Or_int
  have c2 := @cmp_Compare_string_run
  have e2 := en_cmp_Compare_string
  refine Fun.of_model (X := fun r => vI r) (O := fun r => []) Tryd.func59 rfl (Nat.le_of_ble_eq_true (by kernel_rfl)) hm ?_
  simp only [Tryd.ntmps59, Tryd.results59, argsO]
  unfold label_Compare_1
  clear hm
  exact walk

theorem en_slices_CompareFunc_Pair_Pair_Pair_Pair_label_Compare_1 : enters Tryd.prog 57 = true := by kernel_rfl
theorem slices_CompareFunc_Pair_Pair_Pair_Pair_label_Compare_1_run {a0 : (List GPair)} {a1 : (List GPair)} {r : Int} (hm : slices_CompareFunc_Pair_Pair_Pair_Pair_label_Compare_1 a0 a1 = some r) : Fun Tryd.prog 57 [(sl cGPair) a0, (sl cGPair) a1, .fn 59 [] []] (vI r) [] := by
  have c1 := @label_Compare_1_run
  have e1 := en_label_Compare_1
  refine Fun.of_model (X := fun r => vI r) (O := fun r => []) Tryd.func57 rfl (Nat.le_of_ble_eq_true (by kernel_rfl)) hm ?_
  simp only [Tryd.ntmps57, Tryd.results57, argsO]
  unfold slices_CompareFunc_Pair_Pair_Pair_Pair_label_Compare_1
  clear hm
  exact walk

theorem en_label_Compare : enters Tryd.prog 35 = true := by kernel_rfl
theorem label_Compare_run {a0 : (List GPair)} {a1 : (List GPair)} {r : Int} (hm : label_Compare a0 a1 = some r) : Fun Tryd.prog 35 [(sl cGPair) a0, (sl cGPair) a1] (vI r) [] := by
  have c1 := @slices_CompareFunc_Pair_Pair_Pair_Pair_label_Compare_1_run
  have e1 := en_slices_CompareFunc_Pair_Pair_Pair_Pair_label_Compare_1
  have c2 := @label_counts_run
  have e2 := en_label_counts
  refine Fun.of_model (X := fun r => vI r) (O := fun r => []) Tryd.func35 rfl (Nat.le_of_ble_eq_true (by kernel_rfl)) hm ?_
  simp only [Tryd.ntmps35, Tryd.results35, argsO]
  unfold label_Compare
  clear hm
  exact walk

theorem en_table_Sane : enters Tryd.prog 14 = true := by kernel_rfl
theorem table_Sane_run {a0 : GTable} {r : Bool} (hm : table_Sane a0 = some r) : Fun Tryd.prog 14 [(ag cGTable) a0] (vB r) [] := by
  have c1 := @label_Sane_run
  have e1 := en_label_Sane
  have c2 := @hold_Sane_run
  have e2 := en_hold_Sane
  have c3 := @label_Compare_run
  have e3 := en_label_Compare
  refine Fun.of_model (X := fun r => vB r) (O := fun r => []) Tryd.func14 rfl (Nat.le_of_ble_eq_true (by kernel_rfl)) hm ?_
  simp only [Tryd.ntmps14, Tryd.results14, argsO]
  unfold table_Sane
  clear hm
  exact walk

end Go.Proofs.YtoekflobllmeeaaDoor.AM
