/- A part of the proof: Ru2. -/
import Derived.Test.YtickejlolpoboaaGo
import Derived.Test.YtickejlolpoboaaRa
import Derived.Test.YtickejlolpoboaaRb
set_option linter.all false
/- The functions run as their models. -/
namespace Go.Proofs.Ytickejlolpoboaa.AM
open Go Go.Proofs
set_option maxRecDepth 20000
set_option maxHeartbeats 4000000

theorem en_ref03_wrong : enters Try.prog 37 = true := by kernel_rfl
theorem ref03_wrong_run {a0 : (List GPair)} {r : Int} (hm : ref03_wrong a0 = some r) : Fun Try.prog 37 [(sl cGPair) a0] (vI r) [] := by
  have c1 := @ref03_Name_run; have e1 := en_ref03_Name
  refine Fun.of_model (X := fun r => vI r) (O := fun r => []) Try.func37 rfl (Nat.le_of_ble_eq_true (by kernel_rfl)) hm ?_
  simp only [Try.ntmps37, Try.results37, argsO]
  unfold ref03_wrong
  clear hm
  exact walk

theorem en_ref03_Make : enters Try.prog 19 = true := by kernel_rfl
theorem ref03_Make_run {a0 : (List GPair)} {r : (List GPair) × Int} (hm : ref03_Make a0 = some r) : Fun Try.prog 19 [(sl cGPair) a0] (.tup [(sl cGPair) r.1, vI r.2]) [] := by
  have c1 := @ref03_wrong_run; have e1 := en_ref03_wrong
  refine Fun.of_model (X := fun r => .tup [(sl cGPair) r.1, vI r.2]) (O := fun r => []) Try.func19 rfl (Nat.le_of_ble_eq_true (by kernel_rfl)) hm ?_
  simp only [Try.ntmps19, Try.results19, argsO]
  unfold ref03_Make
  clear hm
  exact walk

theorem en_ref03_Sane : enters Try.prog 25 = true := by kernel_rfl
theorem ref03_Sane_run {a0 : (List GPair)} {r : Bool} (hm : ref03_Sane a0 = some r) : Fun Try.prog 25 [(sl cGPair) a0] (vB r) [] := by
  have c1 := @ref03_Name_run; have e1 := en_ref03_Name
  refine Fun.of_model (X := fun r => vB r) (O := fun r => []) Try.func25 rfl (Nat.le_of_ble_eq_true (by kernel_rfl)) hm ?_
  simp only [Try.ntmps25, Try.results25, argsO]
  unfold ref03_Sane
  clear hm
  exact walk

theorem en_ref03_As : enters Try.prog 38 = true := by kernel_rfl
theorem ref03_As_run {a0 : (List GPair)} {r : (List GPair)} (hm : ref03_As a0 = some r) : Fun Try.prog 38 [(sl cGPair) a0] ((sl cGPair) r) [] := by
  have c1 := @ref03_Sane_run; have e1 := en_ref03_Sane
  refine Fun.of_model (X := fun r => (sl cGPair) r) (O := fun r => []) Try.func38 rfl (Nat.le_of_ble_eq_true (by kernel_rfl)) hm ?_
  simp only [Try.ntmps38, Try.results38, argsO]
  unfold ref03_As
  clear hm
  exact walk

theorem en_ref03_Get : enters Try.prog 20 = true := by kernel_rfl
theorem ref03_Get_run {a0 : (List GPair)} {a1 : Str} {r : Str × Bool} (hm : ref03_Get a0 a1 = some r) : Fun Try.prog 20 [(sl cGPair) a0, vS a1] (.tup [vS r.1, vB r.2]) [] := by
  have c1 := @ref03_As_run; have e1 := en_ref03_As
  refine Fun.of_model (X := fun r => .tup [vS r.1, vB r.2]) (O := fun r => []) Try.func20 rfl (Nat.le_of_ble_eq_true (by kernel_rfl)) hm ?_
  simp only [Try.ntmps20, Try.results20, argsO]
  unfold ref03_Get
  clear hm
  exact walk

theorem en_label_Without : enters Try.prog 26 = true := by kernel_rfl
theorem label_Without_run {a0 : (List GPair)} {a1 : Str} {r : (List GPair)} (hm : label_Without a0 a1 = some r) : Fun Try.prog 26 [(sl cGPair) a0, vS a1] (so 0 cGPair r) [tk r.length 2 29] := by
  have c1 := @label_counts_run; have e1 := en_label_counts
  refine Fun.of_model (X := fun r => so 0 cGPair r) (O := fun r => [tk r.length 2 29]) Try.func26 rfl (Nat.le_of_ble_eq_true (by kernel_rfl)) hm ?_
  simp only [Try.ntmps26, Try.results26, argsO]
  unfold label_Without
  clear hm
  exact walk

theorem en_label_With : enters Try.prog 21 = true := by kernel_rfl
theorem label_With_run {a0 : (List GPair)} {a1 : Str} {a2 : Str} {r : (List GPair) × Int} (hm : label_With a0 a1 a2 = some r) : Fun Try.prog 21 [(sl cGPair) a0, vS a1, vS a2] (.tup [(sl cGPair) r.1, vI r.2]) [] := by
  have c1 := @label_Make_run; have e1 := en_label_Make
  have c2 := @label_Without_run; have e2 := en_label_Without
  refine Fun.of_model (X := fun r => .tup [(sl cGPair) r.1, vI r.2]) (O := fun r => []) Try.func21 rfl (Nat.le_of_ble_eq_true (by kernel_rfl)) hm ?_
  simp only [Try.ntmps21, Try.results21, argsO]
  unfold label_With
  clear hm
  exact walk

theorem en_ref03_Without : enters Try.prog 27 = true := by kernel_rfl
theorem ref03_Without_run {a0 : (List GPair)} {a1 : Str} {r : (List GPair)} (hm : ref03_Without a0 a1 = some r) : Fun Try.prog 27 [(sl cGPair) a0, vS a1] (so 0 cGPair r) [tk r.length 2 29] := by
  have c1 := @ref03_As_run; have e1 := en_ref03_As
  refine Fun.of_model (X := fun r => so 0 cGPair r) (O := fun r => [tk r.length 2 29]) Try.func27 rfl (Nat.le_of_ble_eq_true (by kernel_rfl)) hm ?_
  simp only [Try.ntmps27, Try.results27, argsO]
  unfold ref03_Without
  clear hm
  exact walk

theorem en_ref03_With : enters Try.prog 22 = true := by kernel_rfl
theorem ref03_With_run {a0 : (List GPair)} {a1 : Str} {a2 : Str} {r : (List GPair) × Int} (hm : ref03_With a0 a1 a2 = some r) : Fun Try.prog 22 [(sl cGPair) a0, vS a1, vS a2] (.tup [(sl cGPair) r.1, vI r.2]) [] := by
  have c1 := @ref03_Make_run; have e1 := en_ref03_Make
  have c2 := @ref03_Without_run; have e2 := en_ref03_Without
  refine Fun.of_model (X := fun r => .tup [(sl cGPair) r.1, vI r.2]) (O := fun r => []) Try.func22 rfl (Nat.le_of_ble_eq_true (by kernel_rfl)) hm ?_
  simp only [Try.ntmps22, Try.results22, argsO]
  unfold ref03_With
  clear hm
  exact walk

theorem en_ref03_Merge : enters Try.prog 23 = true := by kernel_rfl
theorem ref03_Merge_run {a0 : (List GPair)} {a1 : (List GPair)} {r : (List GPair) × Int} (hm : ref03_Merge a0 a1 = some r) : Fun Try.prog 23 [(sl cGPair) a0, (sl cGPair) a1] (.tup [(sl cGPair) r.1, vI r.2]) [] := by
  have c1 := @ref03_Make_run; have e1 := en_ref03_Make
  have c2 := @ref03_Without_run; have e2 := en_ref03_Without
  have c3 := @ref03_As_run; have e3 := en_ref03_As
  refine Fun.of_model (X := fun r => .tup [(sl cGPair) r.1, vI r.2]) (O := fun r => []) Try.func23 rfl (Nat.le_of_ble_eq_true (by kernel_rfl)) hm ?_
  simp only [Try.ntmps23, Try.results23, argsO]
  unfold ref03_Merge
  clear hm
  exact walk

theorem en_ref03_order : enters Try.prog 40 = true := by kernel_rfl
theorem ref03_order_run {a0 : Str} {a1 : Str} {r : Int} (hm : ref03_order a0 a1 = some r) : Fun Try.prog 40 [vS a0, vS a1] (vI r) [] := by
  refine Fun.of_model (X := fun r => vI r) (O := fun r => []) Try.func40 rfl (Nat.le_of_ble_eq_true (by kernel_rfl)) hm ?_
  simp only [Try.ntmps40, Try.results40, argsO]
  unfold ref03_order
  clear hm
  exact walk

theorem en_ref03_Compare : enters Try.prog 28 = true := by kernel_rfl
theorem ref03_Compare_run {a0 : (List GPair)} {a1 : (List GPair)} {r : Int} (hm : ref03_Compare a0 a1 = some r) : Fun Try.prog 28 [(sl cGPair) a0, (sl cGPair) a1] (vI r) [] := by
  have c1 := @ref03_As_run; have e1 := en_ref03_As
  have c2 := @ref03_order_run; have e2 := en_ref03_order
  refine Fun.of_model (X := fun r => vI r) (O := fun r => []) Try.func28 rfl (Nat.le_of_ble_eq_true (by kernel_rfl)) hm ?_
  simp only [Try.ntmps28, Try.results28, argsO]
  unfold ref03_Compare
  clear hm
  exact walk

end Go.Proofs.Ytickejlolpoboaa.AM
