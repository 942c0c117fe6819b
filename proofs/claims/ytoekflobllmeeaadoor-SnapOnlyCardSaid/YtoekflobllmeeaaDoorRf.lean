/- A part of the proof: Ru5. -/
import Derived.Test.YtoekflobllmeeaaDoorGo
import Derived.Test.YtoekflobllmeeaaDoorRc
import Derived.Test.YtoekflobllmeeaaDoorRd
import Derived.Test.YtoekflobllmeeaaDoorRe
set_option linter.all false
/- The functions run as their models. -/
namespace Go.Proofs.YtoekflobllmeeaaDoor.AM
open Go Go.Proofs
set_option maxRecDepth 20000
set_option maxHeartbeats 4000000

theorem en_ref17_SameAlerts : enters Tryd.prog 52 = true := by kernel_rfl
theorem ref17_SameAlerts_run {a0 : (List GAlert)} {a1 : (List GAlert)} {r : Bool} (hm : ref17_SameAlerts a0 a1 = some r) : Fun Tryd.prog 52 [(sl cGAlert) a0, (sl cGAlert) a1] (vB r) [] := by
  have c1 := @ref17_SameAlert_run
  have e1 := en_ref17_SameAlert
  refine Fun.of_model (X := fun r => vB r) (O := fun r => []) Tryd.func52 rfl (Nat.le_of_ble_eq_true (by kernel_rfl)) hm ?_
  simp only [Tryd.ntmps52, Tryd.results52, argsO]
  unfold ref17_SameAlerts
  clear hm
  exact walk

theorem en_ref17_Same : enters Tryd.prog 25 = true := by kernel_rfl
theorem ref17_Same_run {a0 : GTable} {a1 : GTable} {r : Bool} (hm : ref17_Same a0 a1 = some r) : Fun Tryd.prog 25 [(ag cGTable) a0, (ag cGTable) a1] (vB r) [] := by
  have c1 := @ref17_SameAlerts_run
  have e1 := en_ref17_SameAlerts
  refine Fun.of_model (X := fun r => vB r) (O := fun r => []) Tryd.func25 rfl (Nat.le_of_ble_eq_true (by kernel_rfl)) hm ?_
  simp only [Tryd.ntmps25, Tryd.results25, argsO]
  unfold ref17_Same
  clear hm
  exact walk

theorem en_ref20_Same : enters Tryd.prog 9 = true := by kernel_rfl
theorem ref20_Same_run {a0 : (List GSaved)} {a1 : (List GSaved)} {r : Bool} (hm : ref20_Same a0 a1 = some r) : Fun Tryd.prog 9 [(sl cGSaved) a0, (sl cGSaved) a1] (vB r) [] := by
  have c1 := @ref17_Same_run
  have e1 := en_ref17_Same
  have q1 := aeq_44; have p1 := eqg_44
  refine Fun.of_model (X := fun r => vB r) (O := fun r => []) Tryd.func9 rfl (Nat.le_of_ble_eq_true (by kernel_rfl)) hm ?_
  simp only [Tryd.ntmps9, Tryd.results9, argsO]
  unfold ref20_Same
  clear hm
  exact walk

theorem en_snap_Find : enters Tryd.prog 10 = true := by kernel_rfl
theorem snap_Find_run {a0 : (List GSaved)} {a1 : GKey} {r : GTable} (hm : snap_Find a0 a1 = some r) : Fun Tryd.prog 10 [(sl cGSaved) a0, (ag cGKey) a1] ((ag cGTable) r) [] := by
  have c1 := @snap_Sane_run
  have e1 := en_snap_Sane
  have q1 := aeq_44; have p1 := eqg_44
  refine Fun.of_model (X := fun r => (ag cGTable) r) (O := fun r => []) Tryd.func10 rfl (Nat.le_of_ble_eq_true (by kernel_rfl)) hm ?_
  simp only [Tryd.ntmps10, Tryd.results10, argsO]
  unfold snap_Find
  clear hm
  exact walk

theorem en_law20_awake : enters Tryd.prog 4 = true := by kernel_rfl
theorem law20_awake_run {r : Bool} (hm : law20_awake = some r) : Fun Tryd.prog 4 [] (vB r) [] := by
  have c1 := @snap_Find_run
  have e1 := en_snap_Find
  have c2 := @snap_Get_run
  have e2 := en_snap_Get
  have c3 := @snap_Sane_run
  have e3 := en_snap_Sane
  have c4 := @snap_Put_run
  have e4 := en_snap_Put
  have c5 := @table_Step_run
  have e5 := en_table_Step
  have c6 := @ref20_Same_run
  have e6 := en_ref20_Same
  refine Fun.of_model (X := fun r => vB r) (O := fun r => []) Tryd.func4 rfl (Nat.le_of_ble_eq_true (by kernel_rfl)) hm ?_
  simp only [Tryd.ntmps4, Tryd.results4, argsO]
  unfold law20_awake
  clear hm
  exact walk

theorem en_law20_SnapOnly : enters Tryd.prog 3 = true := by kernel_rfl
theorem law20_SnapOnly_run {a0 : (List Int)} {r : Bool} (hm : law20_SnapOnly a0 = some r) : Fun Tryd.prog 3 [(sl (cK .u8)) a0] (vB r) [] := by
  have c1 := @law20_awake_run
  have e1 := en_law20_awake
  have c2 := @snap_Get_run
  have e2 := en_snap_Get
  have c3 := @snap_Sane_run
  have e3 := en_snap_Sane
  have c4 := @snap_Put_run
  have e4 := en_snap_Put
  refine Fun.of_model (X := fun r => vB r) (O := fun r => []) Tryd.func3 rfl (Nat.le_of_ble_eq_true (by kernel_rfl)) hm ?_
  simp only [Tryd.ntmps3, Tryd.results3, argsO]
  unfold law20_SnapOnly
  clear hm
  exact walk

end Go.Proofs.YtoekflobllmeeaaDoor.AM
