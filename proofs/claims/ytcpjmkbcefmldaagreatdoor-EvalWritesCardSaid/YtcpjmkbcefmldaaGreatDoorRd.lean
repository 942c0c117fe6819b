/- A part of the proof: Ru3. -/
import Derived.Test.YtcpjmkbcefmldaaGreatDoorGo
import Derived.Test.YtcpjmkbcefmldaaGreatDoorRa
import Derived.Test.YtcpjmkbcefmldaaGreatDoorRb
import Derived.Test.YtcpjmkbcefmldaaGreatDoorRc
set_option linter.all false
/- The functions run as their models. -/
namespace Go.Proofs.YtcpjmkbcefmldaaGreatDoor.AM
open Go Go.Proofs
set_option maxRecDepth 20000
set_option maxHeartbeats 4000000

theorem en_label_Without : enters Tryz.prog 17 = true := by kernel_rfl
theorem label_Without_run {a0 : (List GPair)} {a1 : Str} {r : (List GPair)} (hm : label_Without a0 a1 = some r) : Fun Tryz.prog 17 [(sl cGPair) a0, vS a1] (so 0 cGPair r) [tk r.length 2 51] := by
  have c1 := @label_counts_run
  have e1 := en_label_counts
  refine Fun.of_model (X := fun r => so 0 cGPair r) (O := fun r => [tk r.length 2 51]) Tryz.func17 rfl (Nat.le_of_ble_eq_true (by kernel_rfl)) hm ?_
  simp only [Tryz.ntmps17, Tryz.results17, argsO]
  unfold label_Without
  clear hm
  exact walk

theorem en_slices_Clone_Pair_Pair : enters Tryz.prog 73 = true := by kernel_rfl
theorem slices_Clone_Pair_Pair_run {a0 : (List GPair)} {r : (List GPair)} (hm : slices_Clone_Pair_Pair a0 = some r) : Fun Tryz.prog 73 [(sl cGPair) a0] (so 0 cGPair r) [tk r.length 2 51] := by
  refine Fun.of_model (X := fun r => so 0 cGPair r) (O := fun r => [tk r.length 2 51]) Tryz.func73 rfl (Nat.le_of_ble_eq_true (by kernel_rfl)) hm ?_
  simp only [Tryz.ntmps73, Tryz.results73, argsO]
  unfold slices_Clone_Pair_Pair
  clear hm
  exact walk

theorem en_label_Make_1 : enters Tryz.prog 75 = true := by kernel_rfl
theorem label_Make_1_run {a0 : GPair} {a1 : GPair} {r : Int} (hm : label_Make_1 a0 a1 = some r) : Fun Tryz.prog 75 [(ag cGPair) a0, (ag cGPair) a1] (vI r) [] := by
  have c1 := @cmp_Compare_string_run
  have e1 := en_cmp_Compare_string
  refine Fun.of_model (X := fun r => vI r) (O := fun r => []) Tryz.func75 rfl (Nat.le_of_ble_eq_true (by kernel_rfl)) hm ?_
  simp only [Tryz.ntmps75, Tryz.results75, argsO]
  unfold label_Make_1
  clear hm
  exact walk

theorem en_label_Make : enters Tryz.prog 49 = true := by kernel_rfl
theorem label_Make_run {a0 : (List GPair)} {r : (List GPair) × Int} (hm : label_Make a0 = some r) : Fun Tryz.prog 49 [(sl cGPair) a0] (.tup [(sl cGPair) r.1, vI r.2]) [] := by
  have c1 := @label_Name_run
  have e1 := en_label_Name
  have c2 := @slices_Clone_Pair_Pair_run
  have e2 := en_slices_Clone_Pair_Pair
  have c3 := @label_Make_1_run
  have e3 := en_label_Make_1
  have z1 := zv_4
  have s1 := sortCon_74_75
  have so1 := sortCon0_74_75
  have se1 := sortEn_74
  have j1 := @cGPair_inj
  refine Fun.of_model (X := fun r => .tup [(sl cGPair) r.1, vI r.2]) (O := fun r => []) Tryz.func49 rfl (Nat.le_of_ble_eq_true (by kernel_rfl)) hm ?_
  simp only [Tryz.ntmps49, Tryz.results49, argsO]
  unfold label_Make
  clear hm
  exact walk

theorem en_label_Merge : enters Tryz.prog 16 = true := by kernel_rfl
theorem label_Merge_run {a0 : (List GPair)} {a1 : (List GPair)} {r : (List GPair) × Int} (hm : label_Merge a0 a1 = some r) : Fun Tryz.prog 16 [(sl cGPair) a0, (sl cGPair) a1] (.tup [(sl cGPair) r.1, vI r.2]) [] := by
  have c1 := @label_Get_run
  have e1 := en_label_Get
  have c2 := @label_counts_run
  have e2 := en_label_counts
  have c3 := @label_Make_run
  have e3 := en_label_Make
  refine Fun.of_model (X := fun r => .tup [(sl cGPair) r.1, vI r.2]) (O := fun r => []) Tryz.func16 rfl (Nat.le_of_ble_eq_true (by kernel_rfl)) hm ?_
  simp only [Tryz.ntmps16, Tryz.results16, argsO]
  unfold label_Merge
  clear hm
  exact walk

theorem en_eval_alert : enters Tryz.prog 43 = true := by kernel_rfl
theorem eval_alert_run {a0 : GRule} {a1 : (List GPair)} {r : (List GPair) × Bool} (hm : eval_alert a0 a1 = some r) : Fun Tryz.prog 43 [(ag cGRule) a0, (sl cGPair) a1] (.tup [(sl cGPair) r.1, vB r.2]) [] := by
  have c1 := @label_Merge_run
  have e1 := en_label_Merge
  have c2 := @label_Without_run
  have e2 := en_label_Without
  refine Fun.of_model (X := fun r => .tup [(sl cGPair) r.1, vB r.2]) (O := fun r => []) Tryz.func43 rfl (Nat.le_of_ble_eq_true (by kernel_rfl)) hm ?_
  simp only [Tryz.ntmps43, Tryz.results43, argsO]
  unfold eval_alert
  clear hm
  exact walk

theorem en_eval_among : enters Tryz.prog 44 = true := by kernel_rfl
theorem eval_among_run {a0 : (List GFound)} {a1 : (List GPair)} {r : Bool} (hm : eval_among a0 a1 = some r) : Fun Tryz.prog 44 [(sl cGFound) a0, (sl cGPair) a1] (vB r) [] := by
  have c1 := @label_Compare_run
  have e1 := en_label_Compare
  refine Fun.of_model (X := fun r => vB r) (O := fun r => []) Tryz.func44 rfl (Nat.le_of_ble_eq_true (by kernel_rfl)) hm ?_
  simp only [Tryz.ntmps44, Tryz.results44, argsO]
  unfold eval_among
  clear hm
  exact walk

theorem en_eval_Rule : enters Tryz.prog 13 = true := by kernel_rfl
theorem eval_Rule_run {a0 : (List GSeries)} {a1 : GRule} {a2 : Int} {r : (List GFound)} (hm : eval_Rule a0 a1 a2 = some r) : Fun Tryz.prog 13 [(sl cGSeries) a0, (ag cGRule) a1, vI a2] ((sl cGFound) r) [] := by
  have c1 := @rule_Sane_run
  have e1 := en_rule_Sane
  have c2 := @store_Select_run
  have e2 := en_store_Select
  have c3 := @cond_Holds_run
  have e3 := en_cond_Holds
  have c4 := @eval_alert_run
  have e4 := en_eval_alert
  have c5 := @eval_among_run
  have e5 := en_eval_among
  refine Fun.of_model (X := fun r => (sl cGFound) r) (O := fun r => []) Tryz.func13 rfl (Nat.le_of_ble_eq_true (by kernel_rfl)) hm ?_
  simp only [Tryz.ntmps13, Tryz.results13, argsO]
  unfold eval_Rule
  clear hm
  exact walk

theorem en_eval_counted : enters Tryz.prog 54 = true := by kernel_rfl
theorem eval_counted_run {a0 : (List GSeries)} {r : (List GSeries)} (hm : eval_counted a0 = some r) : Fun Tryz.prog 54 [(sl cGSeries) a0] ((sl cGSeries) r) [] := by
  have c1 := @store_Sane_run
  have e1 := en_store_Sane
  refine Fun.of_model (X := fun r => (sl cGSeries) r) (O := fun r => []) Tryz.func54 rfl (Nat.le_of_ble_eq_true (by kernel_rfl)) hm ?_
  simp only [Tryz.ntmps54, Tryz.results54, argsO]
  unfold eval_counted
  clear hm
  exact walk

theorem en_hold_time : enters Tryz.prog 83 = true := by kernel_rfl
theorem hold_time_run {a0 : Int} {r : Bool} (hm : hold_time a0 = some r) : Fun Tryz.prog 83 [vI a0] (vB r) [] := by
  refine Fun.of_model (X := fun r => vB r) (O := fun r => []) Tryz.func83 rfl (Nat.le_of_ble_eq_true (by kernel_rfl)) hm ?_
  simp only [Tryz.ntmps83, Tryz.results83, argsO]
  unfold hold_time
  clear hm
  exact walk

theorem en_hold_Sane : enters Tryz.prog 60 = true := by kernel_rfl
theorem hold_Sane_run {a0 : GHold} {r : Bool} (hm : hold_Sane a0 = some r) : Fun Tryz.prog 60 [(ag cGHold) a0] (vB r) [] := by
  have c1 := @hold_time_run
  have e1 := en_hold_time
  refine Fun.of_model (X := fun r => vB r) (O := fun r => []) Tryz.func60 rfl (Nat.le_of_ble_eq_true (by kernel_rfl)) hm ?_
  simp only [Tryz.ntmps60, Tryz.results60, argsO, ag, cGHold, List.map, AV.ofD]
  unfold hold_Sane
  clear hm
  exact walk

theorem en_table_Sane : enters Tryz.prog 30 = true := by kernel_rfl
theorem table_Sane_run {a0 : GTable} {r : Bool} (hm : table_Sane a0 = some r) : Fun Tryz.prog 30 [(ag cGTable) a0] (vB r) [] := by
  have c1 := @label_Compare_run
  have e1 := en_label_Compare
  have c2 := @label_Sane_run
  have e2 := en_label_Sane
  have c3 := @hold_Sane_run
  have e3 := en_hold_Sane
  refine Fun.of_model (X := fun r => vB r) (O := fun r => []) Tryz.func30 rfl (Nat.le_of_ble_eq_true (by kernel_rfl)) hm ?_
  simp only [Tryz.ntmps30, Tryz.results30, argsO]
  unfold table_Sane
  clear hm
  exact walk

end Go.Proofs.YtcpjmkbcefmldaaGreatDoor.AM
