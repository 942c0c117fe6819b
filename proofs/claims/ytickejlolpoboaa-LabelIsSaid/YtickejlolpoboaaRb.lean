/- A part of the proof: Ru1. -/
import Derived.Test.YtickejlolpoboaaGo
import Derived.Test.YtickejlolpoboaaRa
set_option linter.all false
/- The functions run as their models. -/
namespace Go.Proofs.Ytickejlolpoboaa.AM
open Go Go.Proofs
set_option maxRecDepth 20000
set_option maxHeartbeats 4000000

theorem en_slices_CompareFunc_Pair_Pair_Pair_Pair_label_Compare_1 : enters Try.prog 34 = true := by kernel_rfl
theorem slices_CompareFunc_Pair_Pair_Pair_Pair_label_Compare_1_run {a0 : (List GPair)} {a1 : (List GPair)} {r : Int} (hm : slices_CompareFunc_Pair_Pair_Pair_Pair_label_Compare_1 a0 a1 = some r) : Fun Try.prog 34 [(sl cGPair) a0, (sl cGPair) a1, .fn 35 [] []] (vI r) [] := by
  have c1 := @label_Compare_1_run; have e1 := en_label_Compare_1
  refine Fun.of_model (X := fun r => vI r) (O := fun r => []) Try.func34 rfl (Nat.le_of_ble_eq_true (by kernel_rfl)) hm ?_
  simp only [Try.ntmps34, Try.results34, argsO]
  unfold slices_CompareFunc_Pair_Pair_Pair_Pair_label_Compare_1
  clear hm
  exact walk

theorem en_label_Compare : enters Try.prog 16 = true := by kernel_rfl
theorem label_Compare_run {a0 : (List GPair)} {a1 : (List GPair)} {r : Int} (hm : label_Compare a0 a1 = some r) : Fun Try.prog 16 [(sl cGPair) a0, (sl cGPair) a1] (vI r) [] := by
  have c1 := @slices_CompareFunc_Pair_Pair_Pair_Pair_label_Compare_1_run; have e1 := en_slices_CompareFunc_Pair_Pair_Pair_Pair_label_Compare_1
  have c2 := @label_counts_run; have e2 := en_label_counts
  refine Fun.of_model (X := fun r => vI r) (O := fun r => []) Try.func16 rfl (Nat.le_of_ble_eq_true (by kernel_rfl)) hm ?_
  simp only [Try.ntmps16, Try.results16, argsO]
  unfold label_Compare
  clear hm
  exact walk

theorem en_law03_awake : enters Try.prog 10 = true := by kernel_rfl
theorem law03_awake_run {r : Bool} (hm : law03_awake = some r) : Fun Try.prog 10 [] (vB r) [] := by
  have c1 := @label_Make_run; have e1 := en_label_Make
  have c2 := @label_Sane_run; have e2 := en_label_Sane
  have c3 := @label_Get_run; have e3 := en_label_Get
  have c4 := @label_Compare_run; have e4 := en_label_Compare
  have c5 := @label_Merge_run; have e5 := en_label_Merge
  have c6 := @label_Name_run; have e6 := en_label_Name
  refine Fun.of_model (X := fun r => vB r) (O := fun r => []) Try.func10 rfl (Nat.le_of_ble_eq_true (by kernel_rfl)) hm ?_
  simp only [Try.ntmps10, Try.results10, argsO]
  unfold law03_awake
  clear hm
  exact walk

theorem en_ref03_Few : enters Try.prog 11 = true := by kernel_rfl
theorem ref03_Few_run {a0 : (List GPair)} {r : Bool} (hm : ref03_Few a0 = some r) : Fun Try.prog 11 [(sl cGPair) a0] (vB r) [] := by
  refine Fun.of_model (X := fun r => vB r) (O := fun r => []) Try.func11 rfl (Nat.le_of_ble_eq_true (by kernel_rfl)) hm ?_
  simp only [Try.ntmps11, Try.results11, argsO]
  unfold ref03_Few
  clear hm
  exact walk

theorem en_ref03_Same : enters Try.prog 15 = true := by kernel_rfl
theorem ref03_Same_run {a0 : (List GPair)} {a1 : (List GPair)} {r : Bool} (hm : ref03_Same a0 a1 = some r) : Fun Try.prog 15 [(sl cGPair) a0, (sl cGPair) a1] (vB r) [] := by
  have q1 := aeq_29; have p1 := eqg_29
  refine Fun.of_model (X := fun r => vB r) (O := fun r => []) Try.func15 rfl (Nat.le_of_ble_eq_true (by kernel_rfl)) hm ?_
  simp only [Try.ntmps15, Try.results15, argsO]
  unfold ref03_Same
  clear hm
  exact walk

theorem en_law03_LabelMade : enters Try.prog 3 = true := by kernel_rfl
theorem law03_LabelMade_run {a0 : (List GPair)} {r : Bool} (hm : law03_LabelMade a0 = some r) : Fun Try.prog 3 [(sl cGPair) a0] (vB r) [] := by
  have c1 := @law03_awake_run; have e1 := en_law03_awake
  have c2 := @ref03_Few_run; have e2 := en_ref03_Few
  have c3 := @label_Make_run; have e3 := en_label_Make
  have c4 := @label_Sane_run; have e4 := en_label_Sane
  have c5 := @label_Get_run; have e5 := en_label_Get
  have c6 := @ref03_Same_run; have e6 := en_ref03_Same
  refine Fun.of_model (X := fun r => vB r) (O := fun r => []) Try.func3 rfl (Nat.le_of_ble_eq_true (by kernel_rfl)) hm ?_
  simp only [Try.ntmps3, Try.results3, argsO]
  unfold law03_LabelMade
  clear hm
  exact walk

theorem en_law03_LabelOrder : enters Try.prog 4 = true := by kernel_rfl
theorem law03_LabelOrder_run {a0 : (List GPair)} {a1 : (List GPair)} {a2 : (List GPair)} {r : Bool} (hm : law03_LabelOrder a0 a1 a2 = some r) : Fun Try.prog 4 [(sl cGPair) a0, (sl cGPair) a1, (sl cGPair) a2] (vB r) [] := by
  have c1 := @law03_awake_run; have e1 := en_law03_awake
  have c2 := @ref03_Few_run; have e2 := en_ref03_Few
  have c3 := @label_Sane_run; have e3 := en_label_Sane
  have c4 := @ref03_Same_run; have e4 := en_ref03_Same
  have c5 := @label_Compare_run; have e5 := en_label_Compare
  refine Fun.of_model (X := fun r => vB r) (O := fun r => []) Try.func4 rfl (Nat.le_of_ble_eq_true (by kernel_rfl)) hm ?_
  simp only [Try.ntmps4, Try.results4, argsO]
  unfold law03_LabelOrder
  clear hm
  exact walk

theorem en_law03_LabelMerges : enters Try.prog 5 = true := by kernel_rfl
theorem law03_LabelMerges_run {a0 : (List GPair)} {a1 : (List GPair)} {a2 : Str} {r : Bool} (hm : law03_LabelMerges a0 a1 a2 = some r) : Fun Try.prog 5 [(sl cGPair) a0, (sl cGPair) a1, vS a2] (vB r) [] := by
  have c1 := @law03_awake_run; have e1 := en_law03_awake
  have c2 := @ref03_Few_run; have e2 := en_ref03_Few
  have c3 := @label_Sane_run; have e3 := en_label_Sane
  have c4 := @label_Get_run; have e4 := en_label_Get
  have c5 := @ref03_Same_run; have e5 := en_ref03_Same
  have c6 := @label_Merge_run; have e6 := en_label_Merge
  refine Fun.of_model (X := fun r => vB r) (O := fun r => []) Try.func5 rfl (Nat.le_of_ble_eq_true (by kernel_rfl)) hm ?_
  simp only [Try.ntmps5, Try.results5, argsO]
  unfold law03_LabelMerges
  clear hm
  exact walk

theorem en_law03_LabelCut : enters Try.prog 6 = true := by kernel_rfl
theorem law03_LabelCut_run {a0 : (List GPair)} {a1 : Int} {r : Bool} (hm : law03_LabelCut a0 a1 = some r) : Fun Try.prog 6 [(sl cGPair) a0, vI a1] (vB r) [] := by
  have c1 := @law03_awake_run; have e1 := en_law03_awake
  have c2 := @ref03_Few_run; have e2 := en_ref03_Few
  have c3 := @label_Sane_run; have e3 := en_label_Sane
  have c4 := @ref03_Same_run; have e4 := en_ref03_Same
  have c5 := @label_Compare_run; have e5 := en_label_Compare
  have c6 := @label_Merge_run; have e6 := en_label_Merge
  refine Fun.of_model (X := fun r => vB r) (O := fun r => []) Try.func6 rfl (Nat.le_of_ble_eq_true (by kernel_rfl)) hm ?_
  simp only [Try.ntmps6, Try.results6, argsO]
  unfold law03_LabelCut
  clear hm
  exact walk

theorem en_law03_LabelName : enters Try.prog 7 = true := by kernel_rfl
theorem law03_LabelName_run {a0 : Str} {r : Bool} (hm : law03_LabelName a0 = some r) : Fun Try.prog 7 [vS a0] (vB r) [] := by
  have c1 := @law03_awake_run; have e1 := en_law03_awake
  have c2 := @label_Name_run; have e2 := en_label_Name
  refine Fun.of_model (X := fun r => vB r) (O := fun r => []) Try.func7 rfl (Nat.le_of_ble_eq_true (by kernel_rfl)) hm ?_
  simp only [Try.ntmps7, Try.results7, argsO]
  unfold law03_LabelName
  clear hm
  exact walk

theorem en_ref03_Letter : enters Try.prog 39 = true := by kernel_rfl
theorem ref03_Letter_run {a0 : Int} {r : Bool} (hm : ref03_Letter a0 = some r) : Fun Try.prog 39 [(vK .u8) a0] (vB r) [] := by
  refine Fun.of_model (X := fun r => vB r) (O := fun r => []) Try.func39 rfl (Nat.le_of_ble_eq_true (by kernel_rfl)) hm ?_
  simp only [Try.ntmps39, Try.results39, argsO]
  unfold ref03_Letter
  clear hm
  exact walk

theorem en_ref03_Name : enters Try.prog 24 = true := by kernel_rfl
theorem ref03_Name_run {a0 : Str} {r : Bool} (hm : ref03_Name a0 = some r) : Fun Try.prog 24 [vS a0] (vB r) [] := by
  have c1 := @ref03_Letter_run; have e1 := en_ref03_Letter
  refine Fun.of_model (X := fun r => vB r) (O := fun r => []) Try.func24 rfl (Nat.le_of_ble_eq_true (by kernel_rfl)) hm ?_
  simp only [Try.ntmps24, Try.results24, argsO]
  unfold ref03_Name
  clear hm
  exact walk

end Go.Proofs.Ytickejlolpoboaa.AM
