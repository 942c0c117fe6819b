/- A part of the proof: Ru4. -/
import Derived.Test.YtchlojabjmlodaaGreatDoorGo
import Derived.Test.YtchlojabjmlodaaGreatDoorRa
import Derived.Test.YtchlojabjmlodaaGreatDoorRc
import Derived.Test.YtchlojabjmlodaaGreatDoorRd
set_option linter.all false
/- The functions run as their models. -/
namespace Go.Proofs.YtchlojabjmlodaaGreatDoor.AM
open Go Go.Proofs
set_option maxRecDepth 20000
set_option maxHeartbeats 4000000

theorem en_law23_fewTables : enters Tryz.prog 8 = true := by kernel_rfl
theorem law23_fewTables_run {a0 : (List GTable)} {r : Bool} (hm : law23_fewTables a0 = some r) : Fun Tryz.prog 8 [(sl cGTable) a0] (vB r) [] := by
  have c1 := @ref19_Few_run
  have e1 := en_ref19_Few
  refine Fun.of_model (X := fun r => vB r) (O := fun r => []) Tryz.func8 rfl (Nat.le_of_ble_eq_true (by kernel_rfl)) hm ?_
  simp only [Tryz.ntmps8, Tryz.results8, argsO]
  unfold law23_fewTables
  clear hm
  exact walk

theorem en_ref03_Same : enters Tryz.prog 10 = true := by kernel_rfl
theorem ref03_Same_run {a0 : (List GPair)} {a1 : (List GPair)} {r : Bool} (hm : ref03_Same a0 a1 = some r) : Fun Tryz.prog 10 [(sl cGPair) a0, (sl cGPair) a1] (vB r) [] := by
  have q1 := aeq_52; have p1 := eqg_52
  refine Fun.of_model (X := fun r => vB r) (O := fun r => []) Tryz.func10 rfl (Nat.le_of_ble_eq_true (by kernel_rfl)) hm ?_
  simp only [Tryz.ntmps10, Tryz.results10, argsO]
  unfold ref03_Same
  clear hm
  exact walk

theorem en_ref23_Same : enters Tryz.prog 11 = true := by kernel_rfl
theorem ref23_Same_run {a0 : (List GTold)} {a1 : (List GTold)} {r : Bool} (hm : ref23_Same a0 a1 = some r) : Fun Tryz.prog 11 [(sl cGTold) a0, (sl cGTold) a1] (vB r) [] := by
  have c1 := @ref03_Same_run
  have e1 := en_ref03_Same
  refine Fun.of_model (X := fun r => vB r) (O := fun r => []) Tryz.func11 rfl (Nat.le_of_ble_eq_true (by kernel_rfl)) hm ?_
  simp only [Tryz.ntmps11, Tryz.results11, argsO]
  unfold ref23_Same
  clear hm
  exact walk

theorem en_ref22_SameNote : enters Tryz.prog 16 = true := by kernel_rfl
theorem ref22_SameNote_run {a0 : GNote} {a1 : GNote} {r : Bool} (hm : ref22_SameNote a0 a1 = some r) : Fun Tryz.prog 16 [(ag cGNote) a0, (ag cGNote) a1] (vB r) [] := by
  have c1 := @ref03_Same_run
  have e1 := en_ref03_Same
  refine Fun.of_model (X := fun r => vB r) (O := fun r => []) Tryz.func16 rfl (Nat.le_of_ble_eq_true (by kernel_rfl)) hm ?_
  simp only [Tryz.ntmps16, Tryz.results16, argsO]
  unfold ref22_SameNote
  clear hm
  exact walk

theorem en_ref22_Same : enters Tryz.prog 12 = true := by kernel_rfl
theorem ref22_Same_run {a0 : GQueue} {a1 : GQueue} {r : Bool} (hm : ref22_Same a0 a1 = some r) : Fun Tryz.prog 12 [(ag cGQueue) a0, (ag cGQueue) a1] (vB r) [] := by
  have c1 := @ref22_SameNote_run
  have e1 := en_ref22_SameNote
  refine Fun.of_model (X := fun r => vB r) (O := fun r => []) Tryz.func12 rfl (Nat.le_of_ble_eq_true (by kernel_rfl)) hm ?_
  simp only [Tryz.ntmps12, Tryz.results12, argsO]
  unfold ref22_Same
  clear hm
  exact walk

theorem en_law23_NotifyOnce : enters Tryz.prog 3 = true := by kernel_rfl
theorem law23_NotifyOnce_run {a0 : (List GTold)} {a1 : (List GTable)} {a2 : Int} {a3 : Int} {r : Bool} (hm : law23_NotifyOnce a0 a1 a2 a3 = some r) : Fun Tryz.prog 3 [(sl cGTold) a0, (sl cGTable) a1, vI a2, vI a3] (vB r) [] := by
  have c1 := @ref03_Same_run
  have e1 := en_ref03_Same
  have c2 := @ref23_Same_run
  have e2 := en_ref23_Same
  have c3 := @ref22_Same_run
  have e3 := en_ref22_Same
  have c4 := @law23_awake_run
  have e4 := en_law23_awake
  have c5 := @ref23_Few_run
  have e5 := en_ref23_Few
  have c6 := @law23_fewTables_run
  have e6 := en_law23_fewTables
  have c7 := @notify_Tell_run
  have e7 := en_notify_Tell
  refine Fun.of_model (X := fun r => vB r) (O := fun r => []) Tryz.func3 rfl (Nat.le_of_ble_eq_true (by kernel_rfl)) hm ?_
  simp only [Tryz.ntmps3, Tryz.results3, argsO]
  unfold law23_NotifyOnce
  clear hm
  exact walk

theorem en_ref22_Few : enters Tryz.prog 13 = true := by kernel_rfl
theorem ref22_Few_run {a0 : GQueue} {r : Bool} (hm : ref22_Few a0 = some r) : Fun Tryz.prog 13 [(ag cGQueue) a0] (vB r) [] := by
  have c1 := @ref03_Few_run
  have e1 := en_ref03_Few
  refine Fun.of_model (X := fun r => vB r) (O := fun r => []) Tryz.func13 rfl (Nat.le_of_ble_eq_true (by kernel_rfl)) hm ?_
  simp only [Tryz.ntmps13, Tryz.results13, argsO]
  unfold ref22_Few
  clear hm
  exact walk

theorem en_law23_NotifyTells : enters Tryz.prog 4 = true := by kernel_rfl
theorem law23_NotifyTells_run {a0 : (List GTold)} {a1 : GQueue} {a2 : (List GTable)} {a3 : Int} {a4 : Int} {r : Bool} (hm : law23_NotifyTells a0 a1 a2 a3 a4 = some r) : Fun Tryz.prog 4 [(sl cGTold) a0, (ag cGQueue) a1, (sl cGTable) a2, vI a3, vI a4] (vB r) [] := by
  have c1 := @ref22_Few_run
  have e1 := en_ref22_Few
  have c2 := @queue_Sane_run
  have e2 := en_queue_Sane
  have c3 := @notify_Firing_run
  have e3 := en_notify_Firing
  have c4 := @ref22_SameNote_run
  have e4 := en_ref22_SameNote
  have c5 := @label_Compare_run
  have e5 := en_label_Compare
  have c6 := @law23_awake_run
  have e6 := en_law23_awake
  have c7 := @ref23_Few_run
  have e7 := en_ref23_Few
  have c8 := @law23_fewTables_run
  have e8 := en_law23_fewTables
  have c9 := @notify_Tell_run
  have e9 := en_notify_Tell
  refine Fun.of_model (X := fun r => vB r) (O := fun r => []) Tryz.func4 rfl (Nat.le_of_ble_eq_true (by kernel_rfl)) hm ?_
  simp only [Tryz.ntmps4, Tryz.results4, argsO]
  unfold law23_NotifyTells
  clear hm
  exact walk

theorem en_ref23_SameLabels : enters Tryz.prog 19 = true := by kernel_rfl
theorem ref23_SameLabels_run {a0 : (List (List GPair))} {a1 : (List (List GPair))} {r : Bool} (hm : ref23_SameLabels a0 a1 = some r) : Fun Tryz.prog 19 [(sl (cL cGPair)) a0, (sl (cL cGPair)) a1] (vB r) [] := by
  have c1 := @ref03_Same_run
  have e1 := en_ref03_Same
  refine Fun.of_model (X := fun r => vB r) (O := fun r => []) Tryz.func19 rfl (Nat.le_of_ble_eq_true (by kernel_rfl)) hm ?_
  simp only [Tryz.ntmps19, Tryz.results19, argsO]
  unfold ref23_SameLabels
  clear hm
  exact walk

theorem en_law23_NotifyOrder : enters Tryz.prog 5 = true := by kernel_rfl
theorem law23_NotifyOrder_run {a0 : (List GTold)} {a1 : GQueue} {a2 : GTable} {a3 : GTable} {a4 : Int} {a5 : Int} {r : Bool} (hm : law23_NotifyOrder a0 a1 a2 a3 a4 a5 = some r) : Fun Tryz.prog 5 [(sl cGTold) a0, (ag cGQueue) a1, (ag cGTable) a2, (ag cGTable) a3, vI a4, vI a5] (vB r) [] := by
  have c1 := @ref23_Same_run
  have e1 := en_ref23_Same
  have c2 := @ref22_Same_run
  have e2 := en_ref22_Same
  have c3 := @ref22_Few_run
  have e3 := en_ref22_Few
  have c4 := @notify_Firing_run
  have e4 := en_notify_Firing
  have c5 := @ref17_Few_run
  have e5 := en_ref17_Few
  have c6 := @ref23_SameLabels_run
  have e6 := en_ref23_SameLabels
  have c7 := @law23_awake_run
  have e7 := en_law23_awake
  have c8 := @ref23_Few_run
  have e8 := en_ref23_Few
  have c9 := @notify_Tell_run
  have e9 := en_notify_Tell
  refine Fun.of_model (X := fun r => vB r) (O := fun r => []) Tryz.func5 rfl (Nat.le_of_ble_eq_true (by kernel_rfl)) hm ?_
  simp only [Tryz.ntmps5, Tryz.results5, argsO]
  unfold law23_NotifyOrder
  clear hm
  exact walk

end Go.Proofs.YtchlojabjmlodaaGreatDoor.AM
