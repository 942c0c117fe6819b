/- A part of the proof: Ru7. -/
import Derived.Test.YtcpjmkbcefmldaaGreatDoorGo
import Derived.Test.YtcpjmkbcefmldaaGreatDoorRb
import Derived.Test.YtcpjmkbcefmldaaGreatDoorRc
import Derived.Test.YtcpjmkbcefmldaaGreatDoorRd
import Derived.Test.YtcpjmkbcefmldaaGreatDoorRf
import Derived.Test.YtcpjmkbcefmldaaGreatDoorRg
set_option linter.all false
/- The functions run as their models. -/
namespace Go.Proofs.YtcpjmkbcefmldaaGreatDoor.AM
open Go Go.Proofs
set_option maxRecDepth 20000
set_option maxHeartbeats 4000000

theorem law19_EvalRules_run {a0 : (List GSeries)} {a1 : GGroup} {a2 : (List GTable)} {a3 : Int} {a4 : Int} {r : Bool} (hm : law19_EvalRules a0 a1 a2 a3 a4 = some r) : Fun Tryz.prog 4 [(sl cGSeries) a0, (ag cGGroup) a1, (sl cGTable) a2, vI a3, vI a4] (vB r) [] := by
  have c1 := @ref11_Few_run
  have e1 := en_ref11_Few
  have c2 := @ref19_Few_run
  have e2 := en_ref19_Few
  have c3 := @eval_Group_run
  have e3 := en_eval_Group
  have c4 := @ref19_SameTables_run
  have e4 := en_ref19_SameTables
  have c5 := @law19_awake_run
  have e5 := en_law19_awake
  have c6 := @ref14_Few_run
  have e6 := en_ref14_Few
  refine Fun.of_model (X := fun r => vB r) (O := fun r => []) Tryz.func4 rfl (Nat.le_of_ble_eq_true (by kernel_rfl)) hm ?_
  simp only [Tryz.ntmps4, Tryz.results4, argsO]
  unfold law19_EvalRules
  clear hm
  exact walk

theorem en_ref14_SameFound : enters Tryz.prog 26 = true := by kernel_rfl
theorem ref14_SameFound_run {a0 : (List GFound)} {a1 : (List GFound)} {r : Bool} (hm : ref14_SameFound a0 a1 = some r) : Fun Tryz.prog 26 [(sl cGFound) a0, (sl cGFound) a1] (vB r) [] := by
  have c1 := @ref03_Same_run
  have e1 := en_ref03_Same
  have q1 := aeq_39; have p1 := eqg_39
  refine Fun.of_model (X := fun r => vB r) (O := fun r => []) Tryz.func26 rfl (Nat.le_of_ble_eq_true (by kernel_rfl)) hm ?_
  simp only [Tryz.ntmps26, Tryz.results26, argsO]
  unfold ref14_SameFound
  clear hm
  exact walk

theorem law19_EvalMore_run {a0 : (List GSeries)} {a1 : GRule} {a2 : Int} {a3 : Int} {r : Bool} (hm : law19_EvalMore a0 a1 a2 a3 = some r) : Fun Tryz.prog 5 [(sl cGSeries) a0, (ag cGRule) a1, vI a2, vI a3] (vB r) [] := by
  have c1 := @ref10_Few_run
  have e1 := en_ref10_Few
  have c2 := @rule_Sane_run
  have e2 := en_rule_Sane
  have c3 := @eval_Rule_run
  have e3 := en_eval_Rule
  have c4 := @store_Select_run
  have e4 := en_store_Select
  have c5 := @ref14_SameFound_run
  have e5 := en_ref14_SameFound
  have c6 := @law19_awake_run
  have e6 := en_law19_awake
  have c7 := @ref14_Few_run
  have e7 := en_ref14_Few
  refine Fun.of_model (X := fun r => vB r) (O := fun r => []) Tryz.func5 rfl (Nat.le_of_ble_eq_true (by kernel_rfl)) hm ?_
  simp only [Tryz.ntmps5, Tryz.results5, argsO]
  unfold law19_EvalMore
  clear hm
  exact walk

theorem en_ref13_Same : enters Tryz.prog 59 = true := by kernel_rfl
theorem ref13_Same_run {a0 : (List GSample)} {a1 : (List GSample)} {r : Bool} (hm : ref13_Same a0 a1 = some r) : Fun Tryz.prog 59 [(sl cGSample) a0, (sl cGSample) a1] (vB r) [] := by
  have q1 := aeq_39; have p1 := eqg_39
  refine Fun.of_model (X := fun r => vB r) (O := fun r => []) Tryz.func59 rfl (Nat.le_of_ble_eq_true (by kernel_rfl)) hm ?_
  simp only [Tryz.ntmps59, Tryz.results59, argsO]
  unfold ref13_Same
  clear hm
  exact walk

theorem en_ref14_Same : enters Tryz.prog 28 = true := by kernel_rfl
theorem ref14_Same_run {a0 : (List GSeries)} {a1 : (List GSeries)} {r : Bool} (hm : ref14_Same a0 a1 = some r) : Fun Tryz.prog 28 [(sl cGSeries) a0, (sl cGSeries) a1] (vB r) [] := by
  have c1 := @ref03_Same_run
  have e1 := en_ref03_Same
  have c2 := @ref13_Same_run
  have e2 := en_ref13_Same
  refine Fun.of_model (X := fun r => vB r) (O := fun r => []) Tryz.func28 rfl (Nat.le_of_ble_eq_true (by kernel_rfl)) hm ?_
  simp only [Tryz.ntmps28, Tryz.results28, argsO]
  unfold ref14_Same
  clear hm
  exact walk

theorem law19_EvalEmpty_run {a0 : (List GSeries)} {a1 : (List GTable)} {a2 : Int} {r : Bool} (hm : law19_EvalEmpty a0 a1 a2 = some r) : Fun Tryz.prog 6 [(sl cGSeries) a0, (sl cGTable) a1, vI a2] (vB r) [] := by
  have c1 := @store_Sane_run
  have e1 := en_store_Sane
  have c2 := @eval_Group_run
  have e2 := en_eval_Group
  have c3 := @eval_Write_run
  have e3 := en_eval_Write
  have c4 := @ref14_Same_run
  have e4 := en_ref14_Same
  have c5 := @law19_awake_run
  have e5 := en_law19_awake
  have c6 := @ref14_Few_run
  have e6 := en_ref14_Few
  refine Fun.of_model (X := fun r => vB r) (O := fun r => []) Tryz.func6 rfl (Nat.le_of_ble_eq_true (by kernel_rfl)) hm ?_
  simp only [Tryz.ntmps6, Tryz.results6, argsO]
  unfold law19_EvalEmpty
  clear hm
  exact walk

theorem en_store_Get : enters Tryz.prog 32 = true := by kernel_rfl
theorem store_Get_run {a0 : (List GSeries)} {a1 : (List GPair)} {r : (List GSample)} (hm : store_Get a0 a1 = some r) : Fun Tryz.prog 32 [(sl cGSeries) a0, (sl cGPair) a1] ((sl cGSample) r) [] := by
  have c1 := @store_counted_run
  have e1 := en_store_counted
  have c2 := @store_find_run
  have e2 := en_store_find
  refine Fun.of_model (X := fun r => (sl cGSample) r) (O := fun r => []) Tryz.func32 rfl (Nat.le_of_ble_eq_true (by kernel_rfl)) hm ?_
  simp only [Tryz.ntmps32, Tryz.results32, argsO]
  unfold store_Get
  clear hm
  exact walk

theorem law19_EvalWrites_run {a0 : (List GSeries)} {a1 : GTable} {a2 : Int} {r : Bool} (hm : law19_EvalWrites a0 a1 a2 = some r) : Fun Tryz.prog 7 [(sl cGSeries) a0, (ag cGTable) a1, vI a2] (vB r) [] := by
  have c1 := @store_Sane_run
  have e1 := en_store_Sane
  have c2 := @label_With_run
  have e2 := en_label_With
  have c3 := @eval_Write_run
  have e3 := en_eval_Write
  have c4 := @ref17_Few_run
  have e4 := en_ref17_Few
  have c5 := @table_Sane_run
  have e5 := en_table_Sane
  have c6 := @table_Active_run
  have e6 := en_table_Active
  have c7 := @store_Get_run
  have e7 := en_store_Get
  have c8 := @law19_awake_run
  have e8 := en_law19_awake
  have c9 := @ref14_Few_run
  have e9 := en_ref14_Few
  refine Fun.of_model (X := fun r => vB r) (O := fun r => []) Tryz.func7 rfl (Nat.le_of_ble_eq_true (by kernel_rfl)) hm ?_
  simp only [Tryz.ntmps7, Tryz.results7, argsO]
  unfold law19_EvalWrites
  clear hm
  exact walk

end Go.Proofs.YtcpjmkbcefmldaaGreatDoor.AM
