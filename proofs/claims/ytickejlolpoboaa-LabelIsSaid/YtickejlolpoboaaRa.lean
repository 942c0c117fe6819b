/- A part of the proof: Ru0. -/
import Derived.Test.YtickejlolpoboaaGo
set_option linter.all false
/- The functions run as their models. -/
namespace Go.Proofs.Ytickejlolpoboaa.AM
open Go Go.Proofs
set_option maxRecDepth 20000
set_option maxHeartbeats 4000000

theorem en_label_Name : enters Try.prog 18 = true := by kernel_rfl
theorem label_Name_run {a0 : Str} {r : Bool} (hm : label_Name a0 = some r) : Fun Try.prog 18 [vS a0] (vB r) [] := by
  refine Fun.of_model (X := fun r => vB r) (O := fun r => []) Try.func18 rfl (Nat.le_of_ble_eq_true (by kernel_rfl)) hm ?_
  simp only [Try.ntmps18, Try.results18, argsO]
  unfold label_Name
  clear hm
  exact walk

theorem en_slices_Clone_Pair_Pair : enters Try.prog 29 = true := by kernel_rfl
theorem slices_Clone_Pair_Pair_run {a0 : (List GPair)} {r : (List GPair)} (hm : slices_Clone_Pair_Pair a0 = some r) : Fun Try.prog 29 [(sl cGPair) a0] (so 0 cGPair r) [tk r.length 2 29] := by
  refine Fun.of_model (X := fun r => so 0 cGPair r) (O := fun r => [tk r.length 2 29]) Try.func29 rfl (Nat.le_of_ble_eq_true (by kernel_rfl)) hm ?_
  simp only [Try.ntmps29, Try.results29, argsO]
  unfold slices_Clone_Pair_Pair
  clear hm
  exact walk

theorem en_cmp_isNaN_string : enters Try.prog 43 = true := by kernel_rfl
theorem cmp_isNaN_string_run {a0 : Str} {r : Bool} (hm : cmp_isNaN_string a0 = some r) : Fun Try.prog 43 [vS a0] (vB r) [] := by
  refine Fun.of_model (X := fun r => vB r) (O := fun r => []) Try.func43 rfl (Nat.le_of_ble_eq_true (by kernel_rfl)) hm ?_
  simp only [Try.ntmps43, Try.results43, argsO]
  unfold cmp_isNaN_string
  clear hm
  exact walk

theorem en_cmp_Compare_string : enters Try.prog 32 = true := by kernel_rfl
theorem cmp_Compare_string_run {a0 : Str} {a1 : Str} {r : Int} (hm : cmp_Compare_string a0 a1 = some r) : Fun Try.prog 32 [vS a0, vS a1] (vI r) [] := by
  have c1 := @cmp_isNaN_string_run; have e1 := en_cmp_isNaN_string
  refine Fun.of_model (X := fun r => vI r) (O := fun r => []) Try.func32 rfl (Nat.le_of_ble_eq_true (by kernel_rfl)) hm ?_
  simp only [Try.ntmps32, Try.results32, argsO]
  unfold cmp_Compare_string
  clear hm
  exact walk

theorem en_label_Make_1 : enters Try.prog 31 = true := by kernel_rfl
theorem label_Make_1_run {a0 : GPair} {a1 : GPair} {r : Int} (hm : label_Make_1 a0 a1 = some r) : Fun Try.prog 31 [(ag cGPair) a0, (ag cGPair) a1] (vI r) [] := by
  have c1 := @cmp_Compare_string_run; have e1 := en_cmp_Compare_string
  refine Fun.of_model (X := fun r => vI r) (O := fun r => []) Try.func31 rfl (Nat.le_of_ble_eq_true (by kernel_rfl)) hm ?_
  simp only [Try.ntmps31, Try.results31, argsO]
  unfold label_Make_1
  clear hm
  exact walk

theorem en_label_Make : enters Try.prog 12 = true := by kernel_rfl
theorem label_Make_run {a0 : (List GPair)} {r : (List GPair) × Int} (hm : label_Make a0 = some r) : Fun Try.prog 12 [(sl cGPair) a0] (.tup [(sl cGPair) r.1, vI r.2]) [] := by
  have c1 := @label_Name_run; have e1 := en_label_Name
  have c2 := @slices_Clone_Pair_Pair_run; have e2 := en_slices_Clone_Pair_Pair
  have c3 := @label_Make_1_run; have e3 := en_label_Make_1
  have z1 := zv_4
  have s1 := sortCon_30_31
  have so1 := sortCon0_30_31
  have se1 := sortEn_30
  have j1 := @cGPair_inj
  refine Fun.of_model (X := fun r => .tup [(sl cGPair) r.1, vI r.2]) (O := fun r => []) Try.func12 rfl (Nat.le_of_ble_eq_true (by kernel_rfl)) hm ?_
  simp only [Try.ntmps12, Try.results12, argsO]
  unfold label_Make
  clear hm
  exact walk

theorem en_label_Sane : enters Try.prog 13 = true := by kernel_rfl
theorem label_Sane_run {a0 : (List GPair)} {r : Bool} (hm : label_Sane a0 = some r) : Fun Try.prog 13 [(sl cGPair) a0] (vB r) [] := by
  have c1 := @label_Name_run; have e1 := en_label_Name
  refine Fun.of_model (X := fun r => vB r) (O := fun r => []) Try.func13 rfl (Nat.le_of_ble_eq_true (by kernel_rfl)) hm ?_
  simp only [Try.ntmps13, Try.results13, argsO]
  unfold label_Sane
  clear hm
  exact walk

theorem en_label_counts : enters Try.prog 33 = true := by kernel_rfl
theorem label_counts_run {a0 : (List GPair)} {r : (List GPair)} (hm : label_counts a0 = some r) : Fun Try.prog 33 [(sl cGPair) a0] ((sl cGPair) r) [] := by
  have c1 := @label_Sane_run; have e1 := en_label_Sane
  refine Fun.of_model (X := fun r => (sl cGPair) r) (O := fun r => []) Try.func33 rfl (Nat.le_of_ble_eq_true (by kernel_rfl)) hm ?_
  simp only [Try.ntmps33, Try.results33, argsO]
  unfold label_counts
  clear hm
  exact walk

theorem en_label_Get : enters Try.prog 14 = true := by kernel_rfl
theorem label_Get_run {a0 : (List GPair)} {a1 : Str} {r : Str × Bool} (hm : label_Get a0 a1 = some r) : Fun Try.prog 14 [(sl cGPair) a0, vS a1] (.tup [vS r.1, vB r.2]) [] := by
  have c1 := @label_counts_run; have e1 := en_label_counts
  refine Fun.of_model (X := fun r => .tup [vS r.1, vB r.2]) (O := fun r => []) Try.func14 rfl (Nat.le_of_ble_eq_true (by kernel_rfl)) hm ?_
  simp only [Try.ntmps14, Try.results14, argsO]
  unfold label_Get
  clear hm
  exact walk

theorem en_label_Merge : enters Try.prog 17 = true := by kernel_rfl
theorem label_Merge_run {a0 : (List GPair)} {a1 : (List GPair)} {r : (List GPair) × Int} (hm : label_Merge a0 a1 = some r) : Fun Try.prog 17 [(sl cGPair) a0, (sl cGPair) a1] (.tup [(sl cGPair) r.1, vI r.2]) [] := by
  have c1 := @label_Make_run; have e1 := en_label_Make
  have c2 := @label_Get_run; have e2 := en_label_Get
  have c3 := @label_counts_run; have e3 := en_label_counts
  refine Fun.of_model (X := fun r => .tup [(sl cGPair) r.1, vI r.2]) (O := fun r => []) Try.func17 rfl (Nat.le_of_ble_eq_true (by kernel_rfl)) hm ?_
  simp only [Try.ntmps17, Try.results17, argsO]
  unfold label_Merge
  clear hm
  exact walk

theorem en_cmp_Or_int : enters Try.prog 36 = true := by kernel_rfl
theorem cmp_Or_int_run {a0 : (List Int)} {r : Int} (hm : cmp_Or_int a0 = some r) : Fun Try.prog 36 [(sl cI) a0] (vI r) [] := by
  refine Fun.of_model (X := fun r => vI r) (O := fun r => []) Try.func36 rfl (Nat.le_of_ble_eq_true (by kernel_rfl)) hm ?_
  simp only [Try.ntmps36, Try.results36, argsO]
  unfold cmp_Or_int
  clear hm
  exact walk

theorem en_label_Compare_1 : enters Try.prog 35 = true := by kernel_rfl
theorem label_Compare_1_run {a0 : GPair} {a1 : GPair} {r : Int} (hm : label_Compare_1 a0 a1 = some r) : Fun Try.prog 35 [(ag cGPair) a0, (ag cGPair) a1] (vI r) [] := by
  have c1 := @cmp_Compare_string_run; have e1 := en_cmp_Compare_string
  have c2 := @cmp_Or_int_run; have e2 := en_cmp_Or_int
  refine Fun.of_model (X := fun r => vI r) (O := fun r => []) Try.func35 rfl (Nat.le_of_ble_eq_true (by kernel_rfl)) hm ?_
  simp only [Try.ntmps35, Try.results35, argsO]
  unfold label_Compare_1
  clear hm
  exact walk

end Go.Proofs.Ytickejlolpoboaa.AM
