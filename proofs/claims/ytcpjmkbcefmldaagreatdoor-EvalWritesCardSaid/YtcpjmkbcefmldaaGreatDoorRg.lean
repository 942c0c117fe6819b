/- A part of the proof: Ru6. -/
import Derived.Test.YtcpjmkbcefmldaaGreatDoorGo
import Derived.Test.YtcpjmkbcefmldaaGreatDoorRa
import Derived.Test.YtcpjmkbcefmldaaGreatDoorRb
import Derived.Test.YtcpjmkbcefmldaaGreatDoorRc
import Derived.Test.YtcpjmkbcefmldaaGreatDoorRd
import Derived.Test.YtcpjmkbcefmldaaGreatDoorRf
set_option linter.all false
/- The functions run as their models. -/
namespace Go.Proofs.YtcpjmkbcefmldaaGreatDoor.AM
open Go Go.Proofs
set_option maxRecDepth 20000
set_option maxHeartbeats 4000000

theorem en_ref14_Few : enters Tryz.prog 9 = true := by kernel_rfl
theorem ref14_Few_run {a0 : (List GSeries)} {r : Bool} (hm : ref14_Few a0 = some r) : Fun Tryz.prog 9 [(sl cGSeries) a0] (vB r) [] := by
  have c1 := @ref03_Few_run
  have e1 := en_ref03_Few
  refine Fun.of_model (X := fun r => vB r) (O := fun r => []) Tryz.func9 rfl (Nat.le_of_ble_eq_true (by kernel_rfl)) hm ?_
  simp only [Tryz.ntmps9, Tryz.results9, argsO]
  unfold ref14_Few
  clear hm
  exact walk

theorem en_ref08_Few : enters Tryz.prog 36 = true := by kernel_rfl
theorem ref08_Few_run {a0 : GSel} {r : Bool} (hm : ref08_Few a0 = some r) : Fun Tryz.prog 36 [(ag cGSel) a0] (vB r) [] := by
  refine Fun.of_model (X := fun r => vB r) (O := fun r => []) Tryz.func36 rfl (Nat.le_of_ble_eq_true (by kernel_rfl)) hm ?_
  simp only [Tryz.ntmps36, Tryz.results36, argsO]
  unfold ref08_Few
  clear hm
  exact walk

theorem en_ref10_Few : enters Tryz.prog 10 = true := by kernel_rfl
theorem ref10_Few_run {a0 : GRule} {r : Bool} (hm : ref10_Few a0 = some r) : Fun Tryz.prog 10 [(ag cGRule) a0] (vB r) [] := by
  have c1 := @ref03_Few_run
  have e1 := en_ref03_Few
  have c2 := @ref08_Few_run
  have e2 := en_ref08_Few
  refine Fun.of_model (X := fun r => vB r) (O := fun r => []) Tryz.func10 rfl (Nat.le_of_ble_eq_true (by kernel_rfl)) hm ?_
  simp only [Tryz.ntmps10, Tryz.results10, argsO]
  unfold ref10_Few
  clear hm
  exact walk

theorem law19_EvalHolds_run {a0 : (List GSeries)} {a1 : GRule} {a2 : Int} {r : Bool} (hm : law19_EvalHolds a0 a1 a2 = some r) : Fun Tryz.prog 3 [(sl cGSeries) a0, (ag cGRule) a1, vI a2] (vB r) [] := by
  have c1 := @ref10_Few_run
  have e1 := en_ref10_Few
  have c2 := @store_Sane_run
  have e2 := en_store_Sane
  have c3 := @rule_Sane_run
  have e3 := en_rule_Sane
  have c4 := @eval_Rule_run
  have e4 := en_eval_Rule
  have c5 := @store_Select_run
  have e5 := en_store_Select
  have c6 := @cond_Holds_run
  have e6 := en_cond_Holds
  have c7 := @label_Merge_run
  have e7 := en_label_Merge
  have c8 := @label_Without_run
  have e8 := en_label_Without
  have c9 := @label_With_run
  have e9 := en_label_With
  have c10 := @label_Compare_run
  have e10 := en_label_Compare
  have c11 := @label_Get_run
  have e11 := en_label_Get
  have c12 := @label_Sane_run
  have e12 := en_label_Sane
  have c13 := @law19_awake_run
  have e13 := en_law19_awake
  have c14 := @ref14_Few_run
  have e14 := en_ref14_Few
  refine Fun.of_model (X := fun r => vB r) (O := fun r => []) Tryz.func3 rfl (Nat.le_of_ble_eq_true (by kernel_rfl)) hm ?_
  simp only [Tryz.ntmps3, Tryz.results3, argsO]
  unfold law19_EvalHolds
  clear hm
  exact walk

theorem en_ref11_Few : enters Tryz.prog 22 = true := by kernel_rfl
theorem ref11_Few_run {a0 : (List GGroup)} {r : Bool} (hm : ref11_Few a0 = some r) : Fun Tryz.prog 22 [(sl cGGroup) a0] (vB r) [] := by
  have c1 := @ref10_Few_run
  have e1 := en_ref10_Few
  refine Fun.of_model (X := fun r => vB r) (O := fun r => []) Tryz.func22 rfl (Nat.le_of_ble_eq_true (by kernel_rfl)) hm ?_
  simp only [Tryz.ntmps22, Tryz.results22, argsO]
  unfold ref11_Few
  clear hm
  exact walk

theorem en_ref17_Few : enters Tryz.prog 29 = true := by kernel_rfl
theorem ref17_Few_run {a0 : GTable} {r : Bool} (hm : ref17_Few a0 = some r) : Fun Tryz.prog 29 [(ag cGTable) a0] (vB r) [] := by
  have c1 := @ref03_Few_run
  have e1 := en_ref03_Few
  refine Fun.of_model (X := fun r => vB r) (O := fun r => []) Tryz.func29 rfl (Nat.le_of_ble_eq_true (by kernel_rfl)) hm ?_
  simp only [Tryz.ntmps29, Tryz.results29, argsO]
  unfold ref17_Few
  clear hm
  exact walk

theorem en_ref19_Few : enters Tryz.prog 23 = true := by kernel_rfl
theorem ref19_Few_run {a0 : (List GTable)} {r : Bool} (hm : ref19_Few a0 = some r) : Fun Tryz.prog 23 [(sl cGTable) a0] (vB r) [] := by
  have c1 := @ref17_Few_run
  have e1 := en_ref17_Few
  refine Fun.of_model (X := fun r => vB r) (O := fun r => []) Tryz.func23 rfl (Nat.le_of_ble_eq_true (by kernel_rfl)) hm ?_
  simp only [Tryz.ntmps23, Tryz.results23, argsO]
  unfold ref19_Few
  clear hm
  exact walk

theorem en_ref03_Same : enters Tryz.prog 57 = true := by kernel_rfl
theorem ref03_Same_run {a0 : (List GPair)} {a1 : (List GPair)} {r : Bool} (hm : ref03_Same a0 a1 = some r) : Fun Tryz.prog 57 [(sl cGPair) a0, (sl cGPair) a1] (vB r) [] := by
  have q1 := aeq_51; have p1 := eqg_51
  refine Fun.of_model (X := fun r => vB r) (O := fun r => []) Tryz.func57 rfl (Nat.le_of_ble_eq_true (by kernel_rfl)) hm ?_
  simp only [Tryz.ntmps57, Tryz.results57, argsO]
  unfold ref03_Same
  clear hm
  exact walk

theorem en_ref17_SameAlert : enters Tryz.prog 101 = true := by kernel_rfl
theorem ref17_SameAlert_run {a0 : GAlert} {a1 : GAlert} {r : Bool} (hm : ref17_SameAlert a0 a1 = some r) : Fun Tryz.prog 101 [(ag cGAlert) a0, (ag cGAlert) a1] (vB r) [] := by
  have c1 := @ref03_Same_run
  have e1 := en_ref03_Same
  have q1 := aeq_81; have p1 := eqg_81
  refine Fun.of_model (X := fun r => vB r) (O := fun r => []) Tryz.func101 rfl (Nat.le_of_ble_eq_true (by kernel_rfl)) hm ?_
  simp only [Tryz.ntmps101, Tryz.results101, argsO]
  unfold ref17_SameAlert
  clear hm
  exact walk

theorem en_ref17_SameAlerts : enters Tryz.prog 82 = true := by kernel_rfl
theorem ref17_SameAlerts_run {a0 : (List GAlert)} {a1 : (List GAlert)} {r : Bool} (hm : ref17_SameAlerts a0 a1 = some r) : Fun Tryz.prog 82 [(sl cGAlert) a0, (sl cGAlert) a1] (vB r) [] := by
  have c1 := @ref17_SameAlert_run
  have e1 := en_ref17_SameAlert
  refine Fun.of_model (X := fun r => vB r) (O := fun r => []) Tryz.func82 rfl (Nat.le_of_ble_eq_true (by kernel_rfl)) hm ?_
  simp only [Tryz.ntmps82, Tryz.results82, argsO]
  unfold ref17_SameAlerts
  clear hm
  exact walk

theorem en_ref17_Same : enters Tryz.prog 56 = true := by kernel_rfl
theorem ref17_Same_run {a0 : GTable} {a1 : GTable} {r : Bool} (hm : ref17_Same a0 a1 = some r) : Fun Tryz.prog 56 [(ag cGTable) a0, (ag cGTable) a1] (vB r) [] := by
  have c1 := @ref17_SameAlerts_run
  have e1 := en_ref17_SameAlerts
  refine Fun.of_model (X := fun r => vB r) (O := fun r => []) Tryz.func56 rfl (Nat.le_of_ble_eq_true (by kernel_rfl)) hm ?_
  simp only [Tryz.ntmps56, Tryz.results56, argsO]
  unfold ref17_Same
  clear hm
  exact walk

theorem en_ref19_SameTables : enters Tryz.prog 25 = true := by kernel_rfl
theorem ref19_SameTables_run {a0 : (List GTable)} {a1 : (List GTable)} {r : Bool} (hm : ref19_SameTables a0 a1 = some r) : Fun Tryz.prog 25 [(sl cGTable) a0, (sl cGTable) a1] (vB r) [] := by
  have c1 := @ref17_Same_run
  have e1 := en_ref17_Same
  refine Fun.of_model (X := fun r => vB r) (O := fun r => []) Tryz.func25 rfl (Nat.le_of_ble_eq_true (by kernel_rfl)) hm ?_
  simp only [Tryz.ntmps25, Tryz.results25, argsO]
  unfold ref19_SameTables
  clear hm
  exact walk

end Go.Proofs.YtcpjmkbcefmldaaGreatDoor.AM
