/- A part of the proof: Ru3. -/
import Derived.Test.YtnlbgjlbbdngaaaDoorGo
import Derived.Test.YtnlbgjlbbdngaaaDoorRa
import Derived.Test.YtnlbgjlbbdngaaaDoorRb
import Derived.Test.YtnlbgjlbbdngaaaDoorRc
set_option linter.all false
/- The functions run as their models. -/
namespace Go.Proofs.YtnlbgjlbbdngaaaDoor.AM
open Go Go.Proofs
set_option maxRecDepth 20000
set_option maxHeartbeats 4000000

theorem en_law17_has : enters Tryd.prog 15 = true := by kernel_rfl
theorem law17_has_run {a0 : (List GFound)} {a1 : (List GPair)} {r : Bool} (hm : law17_has a0 a1 = some r) : Fun Tryd.prog 15 [(sl cGFound) a0, (sl cGPair) a1] (vB r) [] := by
  have c1 := @label_Sane_run
  have e1 := en_label_Sane
  have c2 := @label_Compare_run
  have e2 := en_label_Compare
  refine Fun.of_model (X := fun r => vB r) (O := fun r => []) Tryd.func15 rfl (Nat.le_of_ble_eq_true (by kernel_rfl)) hm ?_
  simp only [Tryd.ntmps15, Tryd.results15, argsO]
  unfold law17_has
  clear hm
  exact walk

theorem en_law17_TableEach : enters Tryd.prog 3 = true := by kernel_rfl
theorem law17_TableEach_run {a0 : GTable} {a1 : (List GFound)} {a2 : (List GPair)} {a3 : Int} {a4 : Int} {a5 : Int} {r : Bool} (hm : law17_TableEach a0 a1 a2 a3 a4 a5 = some r) : Fun Tryd.prog 3 [(ag cGTable) a0, (sl cGFound) a1, (sl cGPair) a2, vI a3, vI a4, vI a5] (vB r) [] := by
  have c1 := @ref03_Few_run
  have e1 := en_ref03_Few
  have c2 := @table_Sane_run
  have e2 := en_table_Sane
  have c3 := @label_Sane_run
  have e3 := en_label_Sane
  have c4 := @table_Step_run
  have e4 := en_table_Step
  have c5 := @table_Find_run
  have e5 := en_table_Find
  have c6 := @law17_has_run
  have e6 := en_law17_has
  have c7 := @hold_Step_run
  have e7 := en_hold_Step
  have c8 := @hold_Gone_run
  have e8 := en_hold_Gone
  have c9 := @law17_awake_run
  have e9 := en_law17_awake
  have c10 := @ref17_Few_run
  have e10 := en_ref17_Few
  have c11 := @ref17_FewFound_run
  have e11 := en_ref17_FewFound
  have q1 := aeq_33; have p1 := eqg_33
  refine Fun.of_model (X := fun r => vB r) (O := fun r => []) Tryd.func3 rfl (Nat.le_of_ble_eq_true (by kernel_rfl)) hm ?_
  simp only [Tryd.ntmps3, Tryd.results3, argsO]
  unfold law17_TableEach
  clear hm
  exact walk

theorem en_law17_TableKeeps : enters Tryd.prog 4 = true := by kernel_rfl
theorem law17_TableKeeps_run {a0 : GTable} {a1 : (List GFound)} {a2 : Int} {a3 : Int} {a4 : Int} {r : Bool} (hm : law17_TableKeeps a0 a1 a2 a3 a4 = some r) : Fun Tryd.prog 4 [(ag cGTable) a0, (sl cGFound) a1, vI a2, vI a3, vI a4] (vB r) [] := by
  have c1 := @table_Sane_run
  have e1 := en_table_Sane
  have c2 := @table_Step_run
  have e2 := en_table_Step
  have c3 := @table_Find_run
  have e3 := en_table_Find
  have c4 := @table_Active_run
  have e4 := en_table_Active
  have c5 := @law17_awake_run
  have e5 := en_law17_awake
  have c6 := @ref17_Few_run
  have e6 := en_ref17_Few
  have c7 := @ref17_FewFound_run
  have e7 := en_ref17_FewFound
  refine Fun.of_model (X := fun r => vB r) (O := fun r => []) Tryd.func4 rfl (Nat.le_of_ble_eq_true (by kernel_rfl)) hm ?_
  simp only [Tryd.ntmps4, Tryd.results4, argsO]
  unfold law17_TableKeeps
  clear hm
  exact walk

theorem en_ref03_Same : enters Tryd.prog 50 = true := by kernel_rfl
theorem ref03_Same_run {a0 : (List GPair)} {a1 : (List GPair)} {r : Bool} (hm : ref03_Same a0 a1 = some r) : Fun Tryd.prog 50 [(sl cGPair) a0, (sl cGPair) a1] (vB r) [] := by
  have q1 := aeq_53; have p1 := eqg_53
  refine Fun.of_model (X := fun r => vB r) (O := fun r => []) Tryd.func50 rfl (Nat.le_of_ble_eq_true (by kernel_rfl)) hm ?_
  simp only [Tryd.ntmps50, Tryd.results50, argsO]
  unfold ref03_Same
  clear hm
  exact walk

theorem en_ref17_SameAlert : enters Tryd.prog 45 = true := by kernel_rfl
theorem ref17_SameAlert_run {a0 : GAlert} {a1 : GAlert} {r : Bool} (hm : ref17_SameAlert a0 a1 = some r) : Fun Tryd.prog 45 [(ag cGAlert) a0, (ag cGAlert) a1] (vB r) [] := by
  have c1 := @ref03_Same_run
  have e1 := en_ref03_Same
  have q1 := aeq_33; have p1 := eqg_33
  refine Fun.of_model (X := fun r => vB r) (O := fun r => []) Tryd.func45 rfl (Nat.le_of_ble_eq_true (by kernel_rfl)) hm ?_
  simp only [Tryd.ntmps45, Tryd.results45, argsO]
  unfold ref17_SameAlert
  clear hm
  exact walk

theorem en_ref17_SameAlerts : enters Tryd.prog 36 = true := by kernel_rfl
theorem ref17_SameAlerts_run {a0 : (List GAlert)} {a1 : (List GAlert)} {r : Bool} (hm : ref17_SameAlerts a0 a1 = some r) : Fun Tryd.prog 36 [(sl cGAlert) a0, (sl cGAlert) a1] (vB r) [] := by
  have c1 := @ref17_SameAlert_run
  have e1 := en_ref17_SameAlert
  refine Fun.of_model (X := fun r => vB r) (O := fun r => []) Tryd.func36 rfl (Nat.le_of_ble_eq_true (by kernel_rfl)) hm ?_
  simp only [Tryd.ntmps36, Tryd.results36, argsO]
  unfold ref17_SameAlerts
  clear hm
  exact walk

theorem en_ref17_Same : enters Tryd.prog 20 = true := by kernel_rfl
theorem ref17_Same_run {a0 : GTable} {a1 : GTable} {r : Bool} (hm : ref17_Same a0 a1 = some r) : Fun Tryd.prog 20 [(ag cGTable) a0, (ag cGTable) a1] (vB r) [] := by
  have c1 := @ref17_SameAlerts_run
  have e1 := en_ref17_SameAlerts
  refine Fun.of_model (X := fun r => vB r) (O := fun r => []) Tryd.func20 rfl (Nat.le_of_ble_eq_true (by kernel_rfl)) hm ?_
  simp only [Tryd.ntmps20, Tryd.results20, argsO]
  unfold ref17_Same
  clear hm
  exact walk

theorem en_law17_TableTurned : enters Tryd.prog 5 = true := by kernel_rfl
theorem law17_TableTurned_run {a0 : GTable} {a1 : (List GFound)} {a2 : Int} {a3 : Int} {a4 : Int} {r : Bool} (hm : law17_TableTurned a0 a1 a2 a3 a4 = some r) : Fun Tryd.prog 5 [(ag cGTable) a0, (sl cGFound) a1, vI a2, vI a3, vI a4] (vB r) [] := by
  have c1 := @table_Sane_run
  have e1 := en_table_Sane
  have c2 := @table_Step_run
  have e2 := en_table_Step
  have c3 := @label_Compare_run
  have e3 := en_label_Compare
  have c4 := @ref17_Same_run
  have e4 := en_ref17_Same
  have c5 := @law17_awake_run
  have e5 := en_law17_awake
  have c6 := @ref17_Few_run
  have e6 := en_ref17_Few
  have c7 := @ref17_FewFound_run
  have e7 := en_ref17_FewFound
  refine Fun.of_model (X := fun r => vB r) (O := fun r => []) Tryd.func5 rfl (Nat.le_of_ble_eq_true (by kernel_rfl)) hm ?_
  simp only [Tryd.ntmps5, Tryd.results5, argsO]
  unfold law17_TableTurned
  clear hm
  exact walk

theorem en_law17_TableTwice : enters Tryd.prog 6 = true := by kernel_rfl
theorem law17_TableTwice_run {a0 : GTable} {a1 : (List GFound)} {a2 : Int} {a3 : Int} {a4 : Int} {r : Bool} (hm : law17_TableTwice a0 a1 a2 a3 a4 = some r) : Fun Tryd.prog 6 [(ag cGTable) a0, (sl cGFound) a1, vI a2, vI a3, vI a4] (vB r) [] := by
  have c1 := @table_Sane_run
  have e1 := en_table_Sane
  have c2 := @table_Step_run
  have e2 := en_table_Step
  have c3 := @ref17_Same_run
  have e3 := en_ref17_Same
  have c4 := @law17_awake_run
  have e4 := en_law17_awake
  have c5 := @ref17_Few_run
  have e5 := en_ref17_Few
  have c6 := @ref17_FewFound_run
  have e6 := en_ref17_FewFound
  refine Fun.of_model (X := fun r => vB r) (O := fun r => []) Tryd.func6 rfl (Nat.le_of_ble_eq_true (by kernel_rfl)) hm ?_
  simp only [Tryd.ntmps6, Tryd.results6, argsO]
  unfold law17_TableTwice
  clear hm
  exact walk

end Go.Proofs.YtnlbgjlbbdngaaaDoor.AM
