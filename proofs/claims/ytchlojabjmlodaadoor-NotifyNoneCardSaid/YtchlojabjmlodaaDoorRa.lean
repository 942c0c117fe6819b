/- A part of the proof: Ru0. -/
import Derived.Test.YtchlojabjmlodaaDoorGo
set_option linter.all false
/- The functions run as their models. -/
namespace Go.Proofs.YtchlojabjmlodaaDoor.AM
open Go Go.Proofs
set_option maxRecDepth 20000
set_option maxHeartbeats 4000000

theorem en_label_Name : enters Tryd.prog 30 = true := by kernel_rfl
theorem label_Name_run {a0 : Str} {r : Bool} (hm : label_Name a0 = some r) : Fun Tryd.prog 30 [vS a0] (vB r) [] := by
  refine Fun.of_model (X := fun r => vB r) (O := fun r => []) Tryd.func30 rfl (Nat.le_of_ble_eq_true (by kernel_rfl)) hm ?_
  simp only [Tryd.ntmps30, Tryd.results30, argsO]
  unfold label_Name
  clear hm
  exact walk

theorem en_label_Sane : enters Tryd.prog 12 = true := by kernel_rfl
theorem label_Sane_run {a0 : (List GPair)} {r : Bool} (hm : label_Sane a0 = some r) : Fun Tryd.prog 12 [(sl cGPair) a0] (vB r) [] := by
  have c1 := @label_Name_run
  have e1 := en_label_Name
  refine Fun.of_model (X := fun r => vB r) (O := fun r => []) Tryd.func12 rfl (Nat.le_of_ble_eq_true (by kernel_rfl)) hm ?_
  simp only [Tryd.ntmps12, Tryd.results12, argsO]
  unfold label_Sane
  clear hm
  exact walk

theorem en_hold_time : enters Tryd.prog 68 = true := by kernel_rfl
theorem hold_time_run {a0 : Int} {r : Bool} (hm : hold_time a0 = some r) : Fun Tryd.prog 68 [vI a0] (vB r) [] := by
  refine Fun.of_model (X := fun r => vB r) (O := fun r => []) Tryd.func68 rfl (Nat.le_of_ble_eq_true (by kernel_rfl)) hm ?_
  simp only [Tryd.ntmps68, Tryd.results68, argsO]
  unfold hold_time
  clear hm
  exact walk

theorem en_hold_Sane : enters Tryd.prog 53 = true := by kernel_rfl
theorem hold_Sane_run {a0 : GHold} {r : Bool} (hm : hold_Sane a0 = some r) : Fun Tryd.prog 53 [(ag cGHold) a0] (vB r) [] := by
  have c1 := @hold_time_run
  have e1 := en_hold_time
  refine Fun.of_model (X := fun r => vB r) (O := fun r => []) Tryd.func53 rfl (Nat.le_of_ble_eq_true (by kernel_rfl)) hm ?_
  simp only [Tryd.ntmps53, Tryd.results53, argsO, ag, cGHold, List.map, AV.ofD]
  unfold hold_Sane
  clear hm
  exact walk

theorem en_label_counts : enters Tryd.prog 18 = true := by kernel_rfl
theorem label_counts_run {a0 : (List GPair)} {r : (List GPair)} (hm : label_counts a0 = some r) : Fun Tryd.prog 18 [(sl cGPair) a0] ((sl cGPair) r) [] := by
  have c1 := @label_Sane_run
  have e1 := en_label_Sane
  refine Fun.of_model (X := fun r => (sl cGPair) r) (O := fun r => []) Tryd.func18 rfl (Nat.le_of_ble_eq_true (by kernel_rfl)) hm ?_
  simp only [Tryd.ntmps18, Tryd.results18, argsO]
  unfold label_counts
  clear hm
  exact walk

theorem en_cmp_isNaN_string : enters Tryd.prog 38 = true := by kernel_rfl
theorem cmp_isNaN_string_run {a0 : Str} {r : Bool} (hm : cmp_isNaN_string a0 = some r) : Fun Tryd.prog 38 [vS a0] (vB r) [] := by
  refine Fun.of_model (X := fun r => vB r) (O := fun r => []) Tryd.func38 rfl (Nat.le_of_ble_eq_true (by kernel_rfl)) hm ?_
  simp only [Tryd.ntmps38, Tryd.results38, argsO]
  unfold cmp_isNaN_string
  clear hm
  exact walk

theorem en_cmp_Compare_string : enters Tryd.prog 21 = true := by kernel_rfl
theorem cmp_Compare_string_run {a0 : Str} {a1 : Str} {r : Int} (hm : cmp_Compare_string a0 a1 = some r) : Fun Tryd.prog 21 [vS a0, vS a1] (vI r) [] := by
  have c1 := @cmp_isNaN_string_run
  have e1 := en_cmp_isNaN_string
  refine Fun.of_model (X := fun r => vI r) (O := fun r => []) Tryd.func21 rfl (Nat.le_of_ble_eq_true (by kernel_rfl)) hm ?_
  simp only [Tryd.ntmps21, Tryd.results21, argsO]
  unfold cmp_Compare_string
  clear hm
  exact walk

theorem en_cmp_Or_int : enters Tryd.prog 20 = true := by kernel_rfl
theorem cmp_Or_int_run {a0 : (List Int)} {r : Int} (hm : cmp_Or_int a0 = some r) : Fun Tryd.prog 20 [(sl cI) a0] (vI r) [] := by
  refine Fun.of_model (X := fun r => vI r) (O := fun r => []) Tryd.func20 rfl (Nat.le_of_ble_eq_true (by kernel_rfl)) hm ?_
  simp only [Tryd.ntmps20, Tryd.results20, argsO]
  unfold cmp_Or_int
  clear hm
  exact walk

theorem en_label_Compare_1 : enters Tryd.prog 19 = true := by kernel_rfl
theorem label_Compare_1_run {a0 : GPair} {a1 : GPair} {r : Int} (hm : label_Compare_1 a0 a1 = some r) : Fun Tryd.prog 19 [(ag cGPair) a0, (ag cGPair) a1] (vI r) [] := by
  have c1 := @cmp_Or_int_run
  have e1 := en_cmp_Or_int
  have c2 := @cmp_Compare_string_run
  have e2 := en_cmp_Compare_string
  refine Fun.of_model (X := fun r => vI r) (O := fun r => []) Tryd.func19 rfl (Nat.le_of_ble_eq_true (by kernel_rfl)) hm ?_
  simp only [Tryd.ntmps19, Tryd.results19, argsO]
  unfold label_Compare_1
  clear hm
  exact walk

theorem en_slices_CompareFunc_Pair_Pair_Pair_Pair_label_Compare_1 : enters Tryd.prog 17 = true := by kernel_rfl
theorem slices_CompareFunc_Pair_Pair_Pair_Pair_label_Compare_1_run {a0 : (List GPair)} {a1 : (List GPair)} {r : Int} (hm : slices_CompareFunc_Pair_Pair_Pair_Pair_label_Compare_1 a0 a1 = some r) : Fun Tryd.prog 17 [(sl cGPair) a0, (sl cGPair) a1, .fn 19 [] []] (vI r) [] := by
  have c1 := @label_Compare_1_run
  have e1 := en_label_Compare_1
  refine Fun.of_model (X := fun r => vI r) (O := fun r => []) Tryd.func17 rfl (Nat.le_of_ble_eq_true (by kernel_rfl)) hm ?_
  simp only [Tryd.ntmps17, Tryd.results17, argsO]
  unfold slices_CompareFunc_Pair_Pair_Pair_Pair_label_Compare_1
  clear hm
  exact walk

theorem en_label_Compare : enters Tryd.prog 8 = true := by kernel_rfl
theorem label_Compare_run {a0 : (List GPair)} {a1 : (List GPair)} {r : Int} (hm : label_Compare a0 a1 = some r) : Fun Tryd.prog 8 [(sl cGPair) a0, (sl cGPair) a1] (vI r) [] := by
  have c1 := @slices_CompareFunc_Pair_Pair_Pair_Pair_label_Compare_1_run
  have e1 := en_slices_CompareFunc_Pair_Pair_Pair_Pair_label_Compare_1
  have c2 := @label_counts_run
  have e2 := en_label_counts
  refine Fun.of_model (X := fun r => vI r) (O := fun r => []) Tryd.func8 rfl (Nat.le_of_ble_eq_true (by kernel_rfl)) hm ?_
  simp only [Tryd.ntmps8, Tryd.results8, argsO]
  unfold label_Compare
  clear hm
  exact walk

theorem en_table_Sane : enters Tryd.prog 39 = true := by kernel_rfl
theorem table_Sane_run {a0 : GTable} {r : Bool} (hm : table_Sane a0 = some r) : Fun Tryd.prog 39 [(ag cGTable) a0] (vB r) [] := by
  have c1 := @label_Sane_run
  have e1 := en_label_Sane
  have c2 := @hold_Sane_run
  have e2 := en_hold_Sane
  have c3 := @label_Compare_run
  have e3 := en_label_Compare
  refine Fun.of_model (X := fun r => vB r) (O := fun r => []) Tryd.func39 rfl (Nat.le_of_ble_eq_true (by kernel_rfl)) hm ?_
  simp only [Tryd.ntmps39, Tryd.results39, argsO]
  unfold table_Sane
  clear hm
  exact walk

end Go.Proofs.YtchlojabjmlodaaDoor.AM
