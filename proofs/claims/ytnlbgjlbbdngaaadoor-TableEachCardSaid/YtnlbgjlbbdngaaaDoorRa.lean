/- A part of the proof: Ru0. -/
import Derived.Test.YtnlbgjlbbdngaaaDoorGo
set_option linter.all false
/- The functions run as their models. -/
namespace Go.Proofs.YtnlbgjlbbdngaaaDoor.AM
open Go Go.Proofs
set_option maxRecDepth 20000
set_option maxHeartbeats 4000000

theorem en_law17_found : enters Tryd.prog 21 = true := by kernel_rfl
theorem law17_found_run {a0 : Str} {a1 : Int} {r : GFound} (hm : law17_found a0 a1 = some r) : Fun Tryd.prog 21 [vS a0, vI a1] ((ag cGFound) r) [] := by
  refine Fun.of_model (X := fun r => (ag cGFound) r) (O := fun r => []) Tryd.func21 rfl (Nat.le_of_ble_eq_true (by kernel_rfl)) hm ?_
  simp only [Tryd.ntmps21, Tryd.results21, argsO]
  unfold law17_found
  clear hm
  exact walk

theorem en_label_Name : enters Tryd.prog 23 = true := by kernel_rfl
theorem label_Name_run {a0 : Str} {r : Bool} (hm : label_Name a0 = some r) : Fun Tryd.prog 23 [vS a0] (vB r) [] := by
  refine Fun.of_model (X := fun r => vB r) (O := fun r => []) Tryd.func23 rfl (Nat.le_of_ble_eq_true (by kernel_rfl)) hm ?_
  simp only [Tryd.ntmps23, Tryd.results23, argsO]
  unfold label_Name
  clear hm
  exact walk

theorem en_label_Sane : enters Tryd.prog 12 = true := by kernel_rfl
theorem label_Sane_run {a0 : (List GPair)} {r : Bool} (hm : label_Sane a0 = some r) : Fun Tryd.prog 12 [(sl cGPair) a0] (vB r) [] := by
  have c1 := @label_Name_run
  have e1 := en_label_Name
  refine Fun.of_model (X := fun r => vB r) (O := fun r => []) Tryd.func12 rfl (Nat.le_of_ble_eq_true (by kernel_rfl)) hm ?_
  simp only [Tryd.ntmps12, Tryd.results12, argsO]
  unfold label_Sane
  clear hm
  exact walk

theorem en_hold_time : enters Tryd.prog 37 = true := by kernel_rfl
theorem hold_time_run {a0 : Int} {r : Bool} (hm : hold_time a0 = some r) : Fun Tryd.prog 37 [vI a0] (vB r) [] := by
  refine Fun.of_model (X := fun r => vB r) (O := fun r => []) Tryd.func37 rfl (Nat.le_of_ble_eq_true (by kernel_rfl)) hm ?_
  simp only [Tryd.ntmps37, Tryd.results37, argsO]
  unfold hold_time
  clear hm
  exact walk

theorem en_hold_Sane : enters Tryd.prog 22 = true := by kernel_rfl
theorem hold_Sane_run {a0 : GHold} {r : Bool} (hm : hold_Sane a0 = some r) : Fun Tryd.prog 22 [(ag cGHold) a0] (vB r) [] := by
  have c1 := @hold_time_run
  have e1 := en_hold_time
  refine Fun.of_model (X := fun r => vB r) (O := fun r => []) Tryd.func22 rfl (Nat.le_of_ble_eq_true (by kernel_rfl)) hm ?_
  simp only [Tryd.ntmps22, Tryd.results22, argsO]
  unfold hold_Sane
  clear hm
  exact walk

theorem en_label_counts : enters Tryd.prog 32 = true := by kernel_rfl
theorem label_counts_run {a0 : (List GPair)} {r : (List GPair)} (hm : label_counts a0 = some r) : Fun Tryd.prog 32 [(sl cGPair) a0] ((sl cGPair) r) [] := by
  have c1 := @label_Sane_run
  have e1 := en_label_Sane
  refine Fun.of_model (X := fun r => (sl cGPair) r) (O := fun r => []) Tryd.func32 rfl (Nat.le_of_ble_eq_true (by kernel_rfl)) hm ?_
  simp only [Tryd.ntmps32, Tryd.results32, argsO]
  unfold label_counts
  clear hm
  exact walk

theorem en_cmp_isNaN_string : enters Tryd.prog 44 = true := by kernel_rfl
theorem cmp_isNaN_string_run {a0 : Str} {r : Bool} (hm : cmp_isNaN_string a0 = some r) : Fun Tryd.prog 44 [vS a0] (vB r) [] := by
  refine Fun.of_model (X := fun r => vB r) (O := fun r => []) Tryd.func44 rfl (Nat.le_of_ble_eq_true (by kernel_rfl)) hm ?_
  simp only [Tryd.ntmps44, Tryd.results44, argsO]
  unfold cmp_isNaN_string
  clear hm
  exact walk

theorem en_cmp_Compare_string : enters Tryd.prog 35 = true := by kernel_rfl
theorem cmp_Compare_string_run {a0 : Str} {a1 : Str} {r : Int} (hm : cmp_Compare_string a0 a1 = some r) : Fun Tryd.prog 35 [vS a0, vS a1] (vI r) [] := by
  have c1 := @cmp_isNaN_string_run
  have e1 := en_cmp_isNaN_string
  refine Fun.of_model (X := fun r => vI r) (O := fun r => []) Tryd.func35 rfl (Nat.le_of_ble_eq_true (by kernel_rfl)) hm ?_
  simp only [Tryd.ntmps35, Tryd.results35, argsO]
  unfold cmp_Compare_string
  clear hm
  exact walk

theorem en_cmp_Or_int : enters Tryd.prog 34 = true := by kernel_rfl
theorem cmp_Or_int_run {a0 : (List Int)} {r : Int} (hm : cmp_Or_int a0 = some r) : Fun Tryd.prog 34 [(sl cI) a0] (vI r) [] := by
  refine Fun.of_model (X := fun r => vI r) (O := fun r => []) Tryd.func34 rfl (Nat.le_of_ble_eq_true (by kernel_rfl)) hm ?_
  simp only [Tryd.ntmps34, Tryd.results34, argsO]
  unfold cmp_Or_int
  clear hm
  exact walk

theorem en_label_Compare_1 : enters Tryd.prog 33 = true := by kernel_rfl
theorem label_Compare_1_run {a0 : GPair} {a1 : GPair} {r : Int} (hm : label_Compare_1 a0 a1 = some r) : Fun Tryd.prog 33 [(ag cGPair) a0, (ag cGPair) a1] (vI r) [] := by
  have c1 := @cmp_Or_int_run
  have e1 := en_cmp_Or_int
  have c2 := @cmp_Compare_string_run
  have e2 := en_cmp_Compare_string
  refine Fun.of_model (X := fun r => vI r) (O := fun r => []) Tryd.func33 rfl (Nat.le_of_ble_eq_true (by kernel_rfl)) hm ?_
  simp only [Tryd.ntmps33, Tryd.results33, argsO]
  unfold label_Compare_1
  clear hm
  exact walk

theorem en_slices_CompareFunc_Pair_Pair_Pair_Pair_label_Compare_1 : enters Tryd.prog 31 = true := by kernel_rfl
theorem slices_CompareFunc_Pair_Pair_Pair_Pair_label_Compare_1_run {a0 : (List GPair)} {a1 : (List GPair)} {r : Int} (hm : slices_CompareFunc_Pair_Pair_Pair_Pair_label_Compare_1 a0 a1 = some r) : Fun Tryd.prog 31 [(sl cGPair) a0, (sl cGPair) a1, .fn 33 [] []] (vI r) [] := by
  have c1 := @label_Compare_1_run
  have e1 := en_label_Compare_1
  refine Fun.of_model (X := fun r => vI r) (O := fun r => []) Tryd.func31 rfl (Nat.le_of_ble_eq_true (by kernel_rfl)) hm ?_
  simp only [Tryd.ntmps31, Tryd.results31, argsO]
  unfold slices_CompareFunc_Pair_Pair_Pair_Pair_label_Compare_1
  clear hm
  exact walk

theorem en_label_Compare : enters Tryd.prog 19 = true := by kernel_rfl
theorem label_Compare_run {a0 : (List GPair)} {a1 : (List GPair)} {r : Int} (hm : label_Compare a0 a1 = some r) : Fun Tryd.prog 19 [(sl cGPair) a0, (sl cGPair) a1] (vI r) [] := by
  have c1 := @slices_CompareFunc_Pair_Pair_Pair_Pair_label_Compare_1_run
  have e1 := en_slices_CompareFunc_Pair_Pair_Pair_Pair_label_Compare_1
  have c2 := @label_counts_run
  have e2 := en_label_counts
  refine Fun.of_model (X := fun r => vI r) (O := fun r => []) Tryd.func19 rfl (Nat.le_of_ble_eq_true (by kernel_rfl)) hm ?_
  simp only [Tryd.ntmps19, Tryd.results19, argsO]
  unfold label_Compare
  clear hm
  exact walk

end Go.Proofs.YtnlbgjlbbdngaaaDoor.AM
