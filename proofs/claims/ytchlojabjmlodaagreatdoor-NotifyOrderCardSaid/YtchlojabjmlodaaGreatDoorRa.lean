/- A part of the proof: Ru0. -/
import Derived.Test.YtchlojabjmlodaaGreatDoorGo
set_option linter.all false
/- The functions run as their models. -/
namespace Go.Proofs.YtchlojabjmlodaaGreatDoor.AM
open Go Go.Proofs
set_option maxRecDepth 20000
set_option maxHeartbeats 4000000

theorem en_label_Name : enters Tryz.prog 48 = true := by kernel_rfl
theorem label_Name_run {a0 : Str} {r : Bool} (hm : label_Name a0 = some r) : Fun Tryz.prog 48 [vS a0] (vB r) [] := by
  refine Fun.of_model (X := fun r => vB r) (O := fun r => []) Tryz.func48 rfl (Nat.le_of_ble_eq_true (by kernel_rfl)) hm ?_
  simp only [Tryz.ntmps48, Tryz.results48, argsO]
  unfold label_Name
  clear hm
  exact walk

theorem en_label_Sane : enters Tryz.prog 28 = true := by kernel_rfl
theorem label_Sane_run {a0 : (List GPair)} {r : Bool} (hm : label_Sane a0 = some r) : Fun Tryz.prog 28 [(sl cGPair) a0] (vB r) [] := by
  have c1 := @label_Name_run
  have e1 := en_label_Name
  refine Fun.of_model (X := fun r => vB r) (O := fun r => []) Tryz.func28 rfl (Nat.le_of_ble_eq_true (by kernel_rfl)) hm ?_
  simp only [Tryz.ntmps28, Tryz.results28, argsO]
  unfold label_Sane
  clear hm
  exact walk

theorem en_hold_time : enters Tryz.prog 84 = true := by kernel_rfl
theorem hold_time_run {a0 : Int} {r : Bool} (hm : hold_time a0 = some r) : Fun Tryz.prog 84 [vI a0] (vB r) [] := by
  refine Fun.of_model (X := fun r => vB r) (O := fun r => []) Tryz.func84 rfl (Nat.le_of_ble_eq_true (by kernel_rfl)) hm ?_
  simp only [Tryz.ntmps84, Tryz.results84, argsO]
  unfold hold_time
  clear hm
  exact walk

theorem en_hold_Sane : enters Tryz.prog 74 = true := by kernel_rfl
theorem hold_Sane_run {a0 : GHold} {r : Bool} (hm : hold_Sane a0 = some r) : Fun Tryz.prog 74 [(ag cGHold) a0] (vB r) [] := by
  have c1 := @hold_time_run
  have e1 := en_hold_time
  refine Fun.of_model (X := fun r => vB r) (O := fun r => []) Tryz.func74 rfl (Nat.le_of_ble_eq_true (by kernel_rfl)) hm ?_
  simp only [Tryz.ntmps74, Tryz.results74, argsO, ag, cGHold, List.map, AV.ofD]
  unfold hold_Sane
  clear hm
  exact walk

theorem en_label_counts : enters Tryz.prog 32 = true := by kernel_rfl
theorem label_counts_run {a0 : (List GPair)} {r : (List GPair)} (hm : label_counts a0 = some r) : Fun Tryz.prog 32 [(sl cGPair) a0] ((sl cGPair) r) [] := by
  have c1 := @label_Sane_run
  have e1 := en_label_Sane
  refine Fun.of_model (X := fun r => (sl cGPair) r) (O := fun r => []) Tryz.func32 rfl (Nat.le_of_ble_eq_true (by kernel_rfl)) hm ?_
  simp only [Tryz.ntmps32, Tryz.results32, argsO]
  unfold label_counts
  clear hm
  exact walk

theorem en_cmp_isNaN_string : enters Tryz.prog 51 = true := by kernel_rfl
theorem cmp_isNaN_string_run {a0 : Str} {r : Bool} (hm : cmp_isNaN_string a0 = some r) : Fun Tryz.prog 51 [vS a0] (vB r) [] := by
  refine Fun.of_model (X := fun r => vB r) (O := fun r => []) Tryz.func51 rfl (Nat.le_of_ble_eq_true (by kernel_rfl)) hm ?_
  simp only [Tryz.ntmps51, Tryz.results51, argsO]
  unfold cmp_isNaN_string
  clear hm
  exact walk

theorem en_cmp_Compare_string : enters Tryz.prog 35 = true := by kernel_rfl
theorem cmp_Compare_string_run {a0 : Str} {a1 : Str} {r : Int} (hm : cmp_Compare_string a0 a1 = some r) : Fun Tryz.prog 35 [vS a0, vS a1] (vI r) [] := by
  have c1 := @cmp_isNaN_string_run
  have e1 := en_cmp_isNaN_string
  refine Fun.of_model (X := fun r => vI r) (O := fun r => []) Tryz.func35 rfl (Nat.le_of_ble_eq_true (by kernel_rfl)) hm ?_
  simp only [Tryz.ntmps35, Tryz.results35, argsO]
  unfold cmp_Compare_string
  clear hm
  exact walk

theorem en_cmp_Or_int : enters Tryz.prog 34 = true := by kernel_rfl
theorem cmp_Or_int_run {a0 : (List Int)} {r : Int} (hm : cmp_Or_int a0 = some r) : Fun Tryz.prog 34 [(sl cI) a0] (vI r) [] := by
  refine Fun.of_model (X := fun r => vI r) (O := fun r => []) Tryz.func34 rfl (Nat.le_of_ble_eq_true (by kernel_rfl)) hm ?_
  simp only [Tryz.ntmps34, Tryz.results34, argsO]
  unfold cmp_Or_int
  clear hm
  exact walk

theorem en_label_Compare_1 : enters Tryz.prog 33 = true := by kernel_rfl
theorem label_Compare_1_run {a0 : GPair} {a1 : GPair} {r : Int} (hm : label_Compare_1 a0 a1 = some r) : Fun Tryz.prog 33 [(ag cGPair) a0, (ag cGPair) a1] (vI r) [] := by
  have c1 := @cmp_Or_int_run
  have e1 := en_cmp_Or_int
  have c2 := @cmp_Compare_string_run
  have e2 := en_cmp_Compare_string
  refine Fun.of_model (X := fun r => vI r) (O := fun r => []) Tryz.func33 rfl (Nat.le_of_ble_eq_true (by kernel_rfl)) hm ?_
  simp only [Tryz.ntmps33, Tryz.results33, argsO]
  unfold label_Compare_1
  clear hm
  exact walk

theorem en_slices_CompareFunc_Pair_Pair_Pair_Pair_label_Compare_1 : enters Tryz.prog 31 = true := by kernel_rfl
theorem slices_CompareFunc_Pair_Pair_Pair_Pair_label_Compare_1_run {a0 : (List GPair)} {a1 : (List GPair)} {r : Int} (hm : slices_CompareFunc_Pair_Pair_Pair_Pair_label_Compare_1 a0 a1 = some r) : Fun Tryz.prog 31 [(sl cGPair) a0, (sl cGPair) a1, .fn 33 [] []] (vI r) [] := by
  have c1 := @label_Compare_1_run
  have e1 := en_label_Compare_1
  refine Fun.of_model (X := fun r => vI r) (O := fun r => []) Tryz.func31 rfl (Nat.le_of_ble_eq_true (by kernel_rfl)) hm ?_
  simp only [Tryz.ntmps31, Tryz.results31, argsO]
  unfold slices_CompareFunc_Pair_Pair_Pair_Pair_label_Compare_1
  clear hm
  exact walk

theorem en_label_Compare : enters Tryz.prog 17 = true := by kernel_rfl
theorem label_Compare_run {a0 : (List GPair)} {a1 : (List GPair)} {r : Int} (hm : label_Compare a0 a1 = some r) : Fun Tryz.prog 17 [(sl cGPair) a0, (sl cGPair) a1] (vI r) [] := by
  have c1 := @slices_CompareFunc_Pair_Pair_Pair_Pair_label_Compare_1_run
  have e1 := en_slices_CompareFunc_Pair_Pair_Pair_Pair_label_Compare_1
  have c2 := @label_counts_run
  have e2 := en_label_counts
  refine Fun.of_model (X := fun r => vI r) (O := fun r => []) Tryz.func17 rfl (Nat.le_of_ble_eq_true (by kernel_rfl)) hm ?_
  simp only [Tryz.ntmps17, Tryz.results17, argsO]
  unfold label_Compare
  clear hm
  exact walk

theorem en_table_Sane : enters Tryz.prog 52 = true := by kernel_rfl
theorem table_Sane_run {a0 : GTable} {r : Bool} (hm : table_Sane a0 = some r) : Fun Tryz.prog 52 [(ag cGTable) a0] (vB r) [] := by
  have c1 := @label_Compare_run
  have e1 := en_label_Compare
  have c2 := @label_Sane_run
  have e2 := en_label_Sane
  have c3 := @hold_Sane_run
  have e3 := en_hold_Sane
  refine Fun.of_model (X := fun r => vB r) (O := fun r => []) Tryz.func52 rfl (Nat.le_of_ble_eq_true (by kernel_rfl)) hm ?_
  simp only [Tryz.ntmps52, Tryz.results52, argsO]
  unfold table_Sane
  clear hm
  exact walk

end Go.Proofs.YtchlojabjmlodaaGreatDoor.AM
