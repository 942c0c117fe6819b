/- A part of the proof: Ru0. -/
import Derived.Test.YtcpjmkbcefmldaaGreatDoorGo
set_option linter.all false
/- The functions run as their models. -/
namespace Go.Proofs.YtcpjmkbcefmldaaGreatDoor.AM
open Go Go.Proofs
set_option maxRecDepth 20000
set_option maxHeartbeats 4000000

theorem en_label_Name : enters Tryz.prog 39 = true := by kernel_rfl
theorem label_Name_run {a0 : Str} {r : Bool} (hm : label_Name a0 = some r) : Fun Tryz.prog 39 [vS a0] (vB r) [] := by
  refine Fun.of_model (X := fun r => vB r) (O := fun r => []) Tryz.func39 rfl (Nat.le_of_ble_eq_true (by kernel_rfl)) hm ?_
  simp only [Tryz.ntmps39, Tryz.results39, argsO]
  unfold label_Name
  clear hm
  exact walk

theorem en_label_Sane : enters Tryz.prog 21 = true := by kernel_rfl
theorem label_Sane_run {a0 : (List GPair)} {r : Bool} (hm : label_Sane a0 = some r) : Fun Tryz.prog 21 [(sl cGPair) a0] (vB r) [] := by
  have c1 := @label_Name_run
  have e1 := en_label_Name
  refine Fun.of_model (X := fun r => vB r) (O := fun r => []) Tryz.func21 rfl (Nat.le_of_ble_eq_true (by kernel_rfl)) hm ?_
  simp only [Tryz.ntmps21, Tryz.results21, argsO]
  unfold label_Sane
  clear hm
  exact walk

theorem en_label_counts : enters Tryz.prog 48 = true := by kernel_rfl
theorem label_counts_run {a0 : (List GPair)} {r : (List GPair)} (hm : label_counts a0 = some r) : Fun Tryz.prog 48 [(sl cGPair) a0] ((sl cGPair) r) [] := by
  have c1 := @label_Sane_run
  have e1 := en_label_Sane
  refine Fun.of_model (X := fun r => (sl cGPair) r) (O := fun r => []) Tryz.func48 rfl (Nat.le_of_ble_eq_true (by kernel_rfl)) hm ?_
  simp only [Tryz.ntmps48, Tryz.results48, argsO]
  unfold label_counts
  clear hm
  exact walk

theorem en_label_Get : enters Tryz.prog 20 = true := by kernel_rfl
theorem label_Get_run {a0 : (List GPair)} {a1 : Str} {r : Str × Bool} (hm : label_Get a0 a1 = some r) : Fun Tryz.prog 20 [(sl cGPair) a0, vS a1] (.tup [vS r.1, vB r.2]) [] := by
  have c1 := @label_counts_run
  have e1 := en_label_counts
  refine Fun.of_model (X := fun r => .tup [vS r.1, vB r.2]) (O := fun r => []) Tryz.func20 rfl (Nat.le_of_ble_eq_true (by kernel_rfl)) hm ?_
  simp only [Tryz.ntmps20, Tryz.results20, argsO]
  unfold label_Get
  clear hm
  exact walk

theorem en_store_named : enters Tryz.prog 37 = true := by kernel_rfl
theorem store_named_run {a0 : (List GPair)} {r : Bool} (hm : store_named a0 = some r) : Fun Tryz.prog 37 [(sl cGPair) a0] (vB r) [] := by
  have c1 := @label_Get_run
  have e1 := en_label_Get
  have c2 := @label_Sane_run
  have e2 := en_label_Sane
  refine Fun.of_model (X := fun r => vB r) (O := fun r => []) Tryz.func37 rfl (Nat.le_of_ble_eq_true (by kernel_rfl)) hm ?_
  simp only [Tryz.ntmps37, Tryz.results37, argsO]
  unfold store_named
  clear hm
  exact walk

theorem en_series_time : enters Tryz.prog 66 = true := by kernel_rfl
theorem series_time_run {a0 : Int} {r : Bool} (hm : series_time a0 = some r) : Fun Tryz.prog 66 [vI a0] (vB r) [] := by
  refine Fun.of_model (X := fun r => vB r) (O := fun r => []) Tryz.func66 rfl (Nat.le_of_ble_eq_true (by kernel_rfl)) hm ?_
  simp only [Tryz.ntmps66, Tryz.results66, argsO]
  unfold series_time
  clear hm
  exact walk

theorem en_num_Sane : enters Tryz.prog 67 = true := by kernel_rfl
theorem num_Sane_run {a0 : Int} {r : Bool} (hm : num_Sane a0 = some r) : Fun Tryz.prog 67 [vI a0] (vB r) [] := by
  refine Fun.of_model (X := fun r => vB r) (O := fun r => []) Tryz.func67 rfl (Nat.le_of_ble_eq_true (by kernel_rfl)) hm ?_
  simp only [Tryz.ntmps67, Tryz.results67, argsO]
  unfold num_Sane
  clear hm
  exact walk

theorem en_series_Sane : enters Tryz.prog 38 = true := by kernel_rfl
theorem series_Sane_run {a0 : (List GSample)} {r : Bool} (hm : series_Sane a0 = some r) : Fun Tryz.prog 38 [(sl cGSample) a0] (vB r) [] := by
  have c1 := @series_time_run
  have e1 := en_series_time
  have c2 := @num_Sane_run
  have e2 := en_num_Sane
  refine Fun.of_model (X := fun r => vB r) (O := fun r => []) Tryz.func38 rfl (Nat.le_of_ble_eq_true (by kernel_rfl)) hm ?_
  simp only [Tryz.ntmps38, Tryz.results38, argsO]
  unfold series_Sane
  clear hm
  exact walk

theorem en_cmp_isNaN_string : enters Tryz.prog 76 = true := by kernel_rfl
theorem cmp_isNaN_string_run {a0 : Str} {r : Bool} (hm : cmp_isNaN_string a0 = some r) : Fun Tryz.prog 76 [vS a0] (vB r) [] := by
  refine Fun.of_model (X := fun r => vB r) (O := fun r => []) Tryz.func76 rfl (Nat.le_of_ble_eq_true (by kernel_rfl)) hm ?_
  simp only [Tryz.ntmps76, Tryz.results76, argsO]
  unfold cmp_isNaN_string
  clear hm
  exact walk

theorem en_cmp_Compare_string : enters Tryz.prog 53 = true := by kernel_rfl
theorem cmp_Compare_string_run {a0 : Str} {a1 : Str} {r : Int} (hm : cmp_Compare_string a0 a1 = some r) : Fun Tryz.prog 53 [vS a0, vS a1] (vI r) [] := by
  have c1 := @cmp_isNaN_string_run
  have e1 := en_cmp_isNaN_string
  refine Fun.of_model (X := fun r => vI r) (O := fun r => []) Tryz.func53 rfl (Nat.le_of_ble_eq_true (by kernel_rfl)) hm ?_
  simp only [Tryz.ntmps53, Tryz.results53, argsO]
  unfold cmp_Compare_string
  clear hm
  exact walk

theorem en_cmp_Or_int : enters Tryz.prog 52 = true := by kernel_rfl
theorem cmp_Or_int_run {a0 : (List Int)} {r : Int} (hm : cmp_Or_int a0 = some r) : Fun Tryz.prog 52 [(sl cI) a0] (vI r) [] := by
  refine Fun.of_model (X := fun r => vI r) (O := fun r => []) Tryz.func52 rfl (Nat.le_of_ble_eq_true (by kernel_rfl)) hm ?_
  simp only [Tryz.ntmps52, Tryz.results52, argsO]
  unfold cmp_Or_int
  clear hm
  exact walk

theorem en_label_Compare_1 : enters Tryz.prog 51 = true := by kernel_rfl
theorem label_Compare_1_run {a0 : GPair} {a1 : GPair} {r : Int} (hm : label_Compare_1 a0 a1 = some r) : Fun Tryz.prog 51 [(ag cGPair) a0, (ag cGPair) a1] (vI r) [] := by
  have c1 := @cmp_Or_int_run
  have e1 := en_cmp_Or_int
  have c2 := @cmp_Compare_string_run
  have e2 := en_cmp_Compare_string
  refine Fun.of_model (X := fun r => vI r) (O := fun r => []) Tryz.func51 rfl (Nat.le_of_ble_eq_true (by kernel_rfl)) hm ?_
  simp only [Tryz.ntmps51, Tryz.results51, argsO]
  unfold label_Compare_1
  clear hm
  exact walk

end Go.Proofs.YtcpjmkbcefmldaaGreatDoor.AM
