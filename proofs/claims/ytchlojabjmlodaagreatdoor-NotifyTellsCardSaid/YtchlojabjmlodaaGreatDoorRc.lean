/- A part of the proof: Ru2. -/
import Derived.Test.YtchlojabjmlodaaGreatDoorGo
import Derived.Test.YtchlojabjmlodaaGreatDoorRa
import Derived.Test.YtchlojabjmlodaaGreatDoorRb
set_option linter.all false
/- The functions run as their models. -/
namespace Go.Proofs.YtchlojabjmlodaaGreatDoor.AM
open Go Go.Proofs
set_option maxRecDepth 20000
set_option maxHeartbeats 4000000

theorem en_hold_Step : enters Tryz.prog 39 = true := by kernel_rfl
theorem hold_Step_run {a0 : GHold} {a1 : Bool} {a2 : Int} {a3 : Int} {a4 : Int} {r : GHold × Int} (hm : hold_Step a0 a1 a2 a3 a4 = some r) : Fun Tryz.prog 39 [(ag cGHold) a0, vB a1, vI a2, vI a3, vI a4] (.tup [(ag cGHold) r.1, vI r.2]) [] := by
  have c1 := @hold_counted_run
  have e1 := en_hold_counted
  have c2 := @hold_bounded_run
  have e2 := en_hold_bounded
  have c3 := @hold_Now_run
  have e3 := en_hold_Now
  refine Fun.of_model (X := fun r => .tup [(ag cGHold) r.1, vI r.2]) (O := fun r => []) Tryz.func39 rfl (Nat.le_of_ble_eq_true (by kernel_rfl)) hm ?_
  simp only [Tryz.ntmps39, Tryz.results39, argsO]
  unfold hold_Step
  clear hm
  exact walk

theorem en_hold_Gone : enters Tryz.prog 40 = true := by kernel_rfl
theorem hold_Gone_run {a0 : GHold} {a1 : Int} {a2 : Int} {r : Bool} (hm : hold_Gone a0 a1 a2 = some r) : Fun Tryz.prog 40 [(ag cGHold) a0, vI a1, vI a2] (vB r) [] := by
  have c1 := @hold_counted_run
  have e1 := en_hold_counted
  have c2 := @hold_bounded_run
  have e2 := en_hold_bounded
  have c3 := @hold_Now_run
  have e3 := en_hold_Now
  refine Fun.of_model (X := fun r => vB r) (O := fun r => []) Tryz.func40 rfl (Nat.le_of_ble_eq_true (by kernel_rfl)) hm ?_
  simp only [Tryz.ntmps40, Tryz.results40, argsO]
  unfold hold_Gone
  clear hm
  exact walk

theorem en_table_sorted_1 : enters Tryz.prog 61 = true := by kernel_rfl
theorem table_sorted_1_run {a0 : GAlert} {a1 : GAlert} {r : Int} (hm : table_sorted_1 a0 a1 = some r) : Fun Tryz.prog 61 [(ag cGAlert) a0, (ag cGAlert) a1] (vI r) [] := by
  have c1 := @label_Compare_run
  have e1 := en_label_Compare
  refine Fun.of_model (X := fun r => vI r) (O := fun r => []) Tryz.func61 rfl (Nat.le_of_ble_eq_true (by kernel_rfl)) hm ?_
  simp only [Tryz.ntmps61, Tryz.results61, argsO]
  unfold table_sorted_1
  clear hm
  exact walk

theorem en_table_sorted_o : enters Tryz.prog 41 = true := by kernel_rfl
theorem table_sorted_o_run {a0 : (List (Str × GAlert))} {r : (List GAlert)} (hm : table_sorted_o a0 = some r) : FunO Tryz.prog 41 [.map 0] [.map (mp kS (ag cGAlert) a0)] ((sl cGAlert) r) [.map (mp kS (ag cGAlert) a0)] := by
  have c1 := @table_sorted_1_run
  have e1 := en_table_sorted_1
  have s1 := sortCon_60_61
  have so1 := sortCon0_60_61
  have se1 := sortEn_60
  have j1 := @cGAlert_inj
  refine FunO.of_model (oin := [.map (mp kS (ag cGAlert) a0)]) (X := fun r => (sl cGAlert) r) (O := fun r => [.map (mp kS (ag cGAlert) a0)]) Tryz.func41 rfl (Nat.le_of_ble_eq_true (by kernel_rfl)) hm (n0 := 1) rfl ?_
  simp only [Tryz.ntmps41, Tryz.results41, argsO]
  unfold table_sorted_o
  clear hm
  exact walk

theorem en_table_Step : enters Tryz.prog 20 = true := by kernel_rfl
theorem table_Step_run {a0 : GTable} {a1 : (List GFound)} {a2 : Int} {a3 : Int} {a4 : Int} {r : GTable} (hm : table_Step a0 a1 a2 a3 a4 = some r) : Fun Tryz.prog 20 [(ag cGTable) a0, (sl cGFound) a1, vI a2, vI a3, vI a4] ((ag cGTable) r) [] := by
  have c1 := @table_sorted_o_run
  have e1 := en_table_sorted_o
  have c2 := @table_counted_run
  have e2 := en_table_counted
  have c3 := @table_distinct_run
  have e3 := en_table_distinct
  have c4 := @table_key_run
  have e4 := en_table_key
  have c5 := @hold_Step_run
  have e5 := en_hold_Step
  have c6 := @hold_Gone_run
  have e6 := en_hold_Gone
  have z1 := zv_56
  have z2 := zv_73
  refine Fun.of_model (X := fun r => (ag cGTable) r) (O := fun r => []) Tryz.func20 rfl (Nat.le_of_ble_eq_true (by kernel_rfl)) hm ?_
  simp only [Tryz.ntmps20, Tryz.results20, argsO]
  unfold table_Step
  clear hm
  exact walk

theorem en_notify_Sane : enters Tryz.prog 21 = true := by kernel_rfl
theorem notify_Sane_run {a0 : (List GTold)} {r : Bool} (hm : notify_Sane a0 = some r) : Fun Tryz.prog 21 [(sl cGTold) a0] (vB r) [] := by
  have c1 := @label_Compare_run
  have e1 := en_label_Compare
  have c2 := @label_Sane_run
  have e2 := en_label_Sane
  refine Fun.of_model (X := fun r => vB r) (O := fun r => []) Tryz.func21 rfl (Nat.le_of_ble_eq_true (by kernel_rfl)) hm ?_
  simp only [Tryz.ntmps21, Tryz.results21, argsO]
  unfold notify_Sane
  clear hm
  exact walk

theorem en_queue_time : enters Tryz.prog 27 = true := by kernel_rfl
theorem queue_time_run {a0 : Int} {r : Bool} (hm : queue_time a0 = some r) : Fun Tryz.prog 27 [vI a0] (vB r) [] := by
  refine Fun.of_model (X := fun r => vB r) (O := fun r => []) Tryz.func27 rfl (Nat.le_of_ble_eq_true (by kernel_rfl)) hm ?_
  simp only [Tryz.ntmps27, Tryz.results27, argsO]
  unfold queue_time
  clear hm
  exact walk

theorem en_queue_Sane : enters Tryz.prog 14 = true := by kernel_rfl
theorem queue_Sane_run {a0 : GQueue} {r : Bool} (hm : queue_Sane a0 = some r) : Fun Tryz.prog 14 [(ag cGQueue) a0] (vB r) [] := by
  have c1 := @queue_time_run
  have e1 := en_queue_time
  have c2 := @label_Sane_run
  have e2 := en_label_Sane
  refine Fun.of_model (X := fun r => vB r) (O := fun r => []) Tryz.func14 rfl (Nat.le_of_ble_eq_true (by kernel_rfl)) hm ?_
  simp only [Tryz.ntmps14, Tryz.results14, argsO]
  unfold queue_Sane
  clear hm
  exact walk

theorem en_table_Active : enters Tryz.prog 29 = true := by kernel_rfl
theorem table_Active_run {a0 : GTable} {r : (List GAlert)} (hm : table_Active a0 = some r) : Fun Tryz.prog 29 [(ag cGTable) a0] (so 1 cGAlert r) [.dead, tk r.length 7 73] := by
  have c1 := @table_counted_run
  have e1 := en_table_counted
  refine Fun.of_model (X := fun r => so 1 cGAlert r) (O := fun r => [.dead, tk r.length 7 73]) Tryz.func29 rfl (Nat.le_of_ble_eq_true (by kernel_rfl)) hm ?_
  simp only [Tryz.ntmps29, Tryz.results29, argsO]
  unfold table_Active
  clear hm
  exact walk

theorem en_notify_keyOf : enters Tryz.prog 24 = true := by kernel_rfl
theorem notify_keyOf_run {a0 : (List GPair)} {r : LA16_cGPair} (hm : notify_keyOf a0 = some r) : Fun Tryz.prog 24 [(sl cGPair) a0] ((ag cA16_cGPair) r) [] := by
  have cp1 := arA16_cGPair_eq
  refine Fun.of_model (X := fun r => (ag cA16_cGPair) r) (O := fun r => []) Tryz.func24 rfl (Nat.le_of_ble_eq_true (by kernel_rfl)) hm ?_
  simp only [Tryz.ntmps24, Tryz.results24, argsO]
  unfold notify_keyOf
  clear hm
  exact walk

theorem en_notify_Firing : enters Tryz.prog 15 = true := by kernel_rfl
theorem notify_Firing_run {a0 : (List GTable)} {r : (List (List GPair))} (hm : notify_Firing a0 = some r) : Fun Tryz.prog 15 [(sl cGTable) a0] ((sl (cL cGPair)) r) [] := by
  have c1 := @label_Compare_run
  have e1 := en_label_Compare
  have c2 := @notify_keyOf_run
  have e2 := en_notify_keyOf
  have c3 := @table_Active_run
  have e3 := en_table_Active
  have z1 := zv_4
  have s1 := sortCon_30_17
  have so1 := sortCon0_30_17
  have se1 := sortEn_30
  have j1 := @cLcGPair_inj
  have k1 := kqA_64
  have y1 := akA_64
  refine Fun.of_model (X := fun r => (sl (cL cGPair)) r) (O := fun r => []) Tryz.func15 rfl (Nat.le_of_ble_eq_true (by kernel_rfl)) hm ?_
  simp only [Tryz.ntmps15, Tryz.results15, argsO]
  unfold notify_Firing
  clear hm
  exact walk

theorem en_queue_counted : enters Tryz.prog 42 = true := by kernel_rfl
theorem queue_counted_run {a0 : GQueue} {r : GQueue} (hm : queue_counted a0 = some r) : Fun Tryz.prog 42 [(ag cGQueue) a0] ((ag cGQueue) r) [] := by
  have c1 := @queue_Sane_run
  have e1 := en_queue_Sane
  refine Fun.of_model (X := fun r => (ag cGQueue) r) (O := fun r => []) Tryz.func42 rfl (Nat.le_of_ble_eq_true (by kernel_rfl)) hm ?_
  simp only [Tryz.ntmps42, Tryz.results42, argsO]
  unfold queue_counted
  clear hm
  exact walk

end Go.Proofs.YtchlojabjmlodaaGreatDoor.AM
