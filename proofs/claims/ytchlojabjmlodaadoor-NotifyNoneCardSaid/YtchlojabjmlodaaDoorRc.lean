/- A part of the proof: Ru2. -/
import Derived.Test.YtchlojabjmlodaaDoorGo
import Derived.Test.YtchlojabjmlodaaDoorRa
import Derived.Test.YtchlojabjmlodaaDoorRb
set_option linter.all false
/- The functions run as their models. -/
namespace Go.Proofs.YtchlojabjmlodaaDoor.AM
open Go Go.Proofs
set_option maxRecDepth 20000
set_option maxHeartbeats 4000000

theorem en_hold_Step : enters Tryd.prog 25 = true := by kernel_rfl
theorem hold_Step_run {a0 : GHold} {a1 : Bool} {a2 : Int} {a3 : Int} {a4 : Int} {r : GHold × Int} (hm : hold_Step a0 a1 a2 a3 a4 = some r) : Fun Tryd.prog 25 [(ag cGHold) a0, vB a1, vI a2, vI a3, vI a4] (.tup [(ag cGHold) r.1, vI r.2]) [] := by
  have c1 := @hold_counted_run
  have e1 := en_hold_counted
  have c2 := @hold_bounded_run
  have e2 := en_hold_bounded
  have c3 := @hold_Now_run
  have e3 := en_hold_Now
  refine Fun.of_model (X := fun r => .tup [(ag cGHold) r.1, vI r.2]) (O := fun r => []) Tryd.func25 rfl (Nat.le_of_ble_eq_true (by kernel_rfl)) hm ?_
  simp only [Tryd.ntmps25, Tryd.results25, argsO]
  unfold hold_Step
  clear hm
  exact walk

theorem en_hold_Gone : enters Tryd.prog 26 = true := by kernel_rfl
theorem hold_Gone_run {a0 : GHold} {a1 : Int} {a2 : Int} {r : Bool} (hm : hold_Gone a0 a1 a2 = some r) : Fun Tryd.prog 26 [(ag cGHold) a0, vI a1, vI a2] (vB r) [] := by
  have c1 := @hold_counted_run
  have e1 := en_hold_counted
  have c2 := @hold_bounded_run
  have e2 := en_hold_bounded
  have c3 := @hold_Now_run
  have e3 := en_hold_Now
  refine Fun.of_model (X := fun r => vB r) (O := fun r => []) Tryd.func26 rfl (Nat.le_of_ble_eq_true (by kernel_rfl)) hm ?_
  simp only [Tryd.ntmps26, Tryd.results26, argsO]
  unfold hold_Gone
  clear hm
  exact walk

theorem en_table_sorted_1 : enters Tryd.prog 48 = true := by kernel_rfl
theorem table_sorted_1_run {a0 : GAlert} {a1 : GAlert} {r : Int} (hm : table_sorted_1 a0 a1 = some r) : Fun Tryd.prog 48 [(ag cGAlert) a0, (ag cGAlert) a1] (vI r) [] := by
  have c1 := @label_Compare_run
  have e1 := en_label_Compare
  refine Fun.of_model (X := fun r => vI r) (O := fun r => []) Tryd.func48 rfl (Nat.le_of_ble_eq_true (by kernel_rfl)) hm ?_
  simp only [Tryd.ntmps48, Tryd.results48, argsO]
  unfold table_sorted_1
  clear hm
  exact walk

theorem en_table_sorted_o : enters Tryd.prog 27 = true := by kernel_rfl
theorem table_sorted_o_run {a0 : (List (Str × GAlert))} {r : (List GAlert)} (hm : table_sorted_o a0 = some r) : FunO Tryd.prog 27 [.map 0] [.map (mp kS (ag cGAlert) a0)] ((sl cGAlert) r) [.map (mp kS (ag cGAlert) a0)] := by
  have c1 := @table_sorted_1_run
  have e1 := en_table_sorted_1
  have s1 := sortCon_47_48
  have so1 := sortCon0_47_48
  have se1 := sortEn_47
  have j1 := @cGAlert_inj
  refine FunO.of_model (oin := [.map (mp kS (ag cGAlert) a0)]) (X := fun r => (sl cGAlert) r) (O := fun r => [.map (mp kS (ag cGAlert) a0)]) Tryd.func27 rfl (Nat.le_of_ble_eq_true (by kernel_rfl)) hm (n0 := 1) rfl ?_
  simp only [Tryd.ntmps27, Tryd.results27, argsO]
  unfold table_sorted_o
  clear hm
  exact walk

theorem en_table_Step : enters Tryd.prog 9 = true := by kernel_rfl
theorem table_Step_run {a0 : GTable} {a1 : (List GFound)} {a2 : Int} {a3 : Int} {a4 : Int} {r : GTable} (hm : table_Step a0 a1 a2 a3 a4 = some r) : Fun Tryd.prog 9 [(ag cGTable) a0, (sl cGFound) a1, vI a2, vI a3, vI a4] ((ag cGTable) r) [] := by
  have c1 := @table_sorted_o_run
  have e1 := en_table_sorted_o
  have c2 := @table_counted_run
  have e2 := en_table_counted
  have c3 := @table_distinct_run
  have e3 := en_table_distinct
  have c4 := @table_key_run
  have e4 := en_table_key
  have c5 := @hold_Step_run
  have e5 := en_hold_Step
  have c6 := @hold_Gone_run
  have e6 := en_hold_Gone
  have z1 := zv_42
  have z2 := zv_72
  refine Fun.of_model (X := fun r => (ag cGTable) r) (O := fun r => []) Tryd.func9 rfl (Nat.le_of_ble_eq_true (by kernel_rfl)) hm ?_
  simp only [Tryd.ntmps9, Tryd.results9, argsO]
  unfold table_Step
  clear hm
  exact walk

theorem en_notify_Sane : enters Tryd.prog 6 = true := by kernel_rfl
theorem notify_Sane_run {a0 : (List GTold)} {r : Bool} (hm : notify_Sane a0 = some r) : Fun Tryd.prog 6 [(sl cGTold) a0] (vB r) [] := by
  have c1 := @label_Sane_run
  have e1 := en_label_Sane
  have c2 := @label_Compare_run
  have e2 := en_label_Compare
  refine Fun.of_model (X := fun r => vB r) (O := fun r => []) Tryd.func6 rfl (Nat.le_of_ble_eq_true (by kernel_rfl)) hm ?_
  simp only [Tryd.ntmps6, Tryd.results6, argsO]
  unfold notify_Sane
  clear hm
  exact walk

theorem en_queue_time : enters Tryd.prog 31 = true := by kernel_rfl
theorem queue_time_run {a0 : Int} {r : Bool} (hm : queue_time a0 = some r) : Fun Tryd.prog 31 [vI a0] (vB r) [] := by
  refine Fun.of_model (X := fun r => vB r) (O := fun r => []) Tryd.func31 rfl (Nat.le_of_ble_eq_true (by kernel_rfl)) hm ?_
  simp only [Tryd.ntmps31, Tryd.results31, argsO]
  unfold queue_time
  clear hm
  exact walk

theorem en_queue_Sane : enters Tryd.prog 13 = true := by kernel_rfl
theorem queue_Sane_run {a0 : GQueue} {r : Bool} (hm : queue_Sane a0 = some r) : Fun Tryd.prog 13 [(ag cGQueue) a0] (vB r) [] := by
  have c1 := @label_Sane_run
  have e1 := en_label_Sane
  have c2 := @queue_time_run
  have e2 := en_queue_time
  refine Fun.of_model (X := fun r => vB r) (O := fun r => []) Tryd.func13 rfl (Nat.le_of_ble_eq_true (by kernel_rfl)) hm ?_
  simp only [Tryd.ntmps13, Tryd.results13, argsO]
  unfold queue_Sane
  clear hm
  exact walk

theorem en_table_Active : enters Tryd.prog 28 = true := by kernel_rfl
theorem table_Active_run {a0 : GTable} {r : (List GAlert)} (hm : table_Active a0 = some r) : Fun Tryd.prog 28 [(ag cGTable) a0] (so 1 cGAlert r) [.dead, tk r.length 7 72] := by
  have c1 := @table_counted_run
  have e1 := en_table_counted
  refine Fun.of_model (X := fun r => so 1 cGAlert r) (O := fun r => [.dead, tk r.length 7 72]) Tryd.func28 rfl (Nat.le_of_ble_eq_true (by kernel_rfl)) hm ?_
  simp only [Tryd.ntmps28, Tryd.results28, argsO]
  unfold table_Active
  clear hm
  exact walk

theorem en_notify_keyOf : enters Tryd.prog 14 = true := by kernel_rfl
theorem notify_keyOf_run {a0 : (List GPair)} {r : LA16_cGPair} (hm : notify_keyOf a0 = some r) : Fun Tryd.prog 14 [(sl cGPair) a0] ((ag cA16_cGPair) r) [] := by
  have cp1 := arA16_cGPair_eq
  refine Fun.of_model (X := fun r => (ag cA16_cGPair) r) (O := fun r => []) Tryd.func14 rfl (Nat.le_of_ble_eq_true (by kernel_rfl)) hm ?_
  simp only [Tryd.ntmps14, Tryd.results14, argsO]
  unfold notify_keyOf
  clear hm
  exact walk

theorem en_notify_Firing : enters Tryd.prog 10 = true := by kernel_rfl
theorem notify_Firing_run {a0 : (List GTable)} {r : (List (List GPair))} (hm : notify_Firing a0 = some r) : Fun Tryd.prog 10 [(sl cGTable) a0] ((sl (cL cGPair)) r) [] := by
  have c1 := @notify_keyOf_run
  have e1 := en_notify_keyOf
  have c2 := @table_Active_run
  have e2 := en_table_Active
  have c3 := @label_Compare_run
  have e3 := en_label_Compare
  have z1 := zv_4
  have s1 := sortCon_29_8
  have so1 := sortCon0_29_8
  have se1 := sortEn_29
  have j1 := @cLcGPair_inj
  have k1 := kqA_55
  have y1 := akA_55
  refine Fun.of_model (X := fun r => (sl (cL cGPair)) r) (O := fun r => []) Tryd.func10 rfl (Nat.le_of_ble_eq_true (by kernel_rfl)) hm ?_
  simp only [Tryd.ntmps10, Tryd.results10, argsO]
  unfold notify_Firing
  clear hm
  exact walk

theorem en_queue_counted : enters Tryd.prog 32 = true := by kernel_rfl
theorem queue_counted_run {a0 : GQueue} {r : GQueue} (hm : queue_counted a0 = some r) : Fun Tryd.prog 32 [(ag cGQueue) a0] ((ag cGQueue) r) [] := by
  have c1 := @queue_Sane_run
  have e1 := en_queue_Sane
  refine Fun.of_model (X := fun r => (ag cGQueue) r) (O := fun r => []) Tryd.func32 rfl (Nat.le_of_ble_eq_true (by kernel_rfl)) hm ?_
  simp only [Tryd.ntmps32, Tryd.results32, argsO]
  unfold queue_counted
  clear hm
  exact walk

end Go.Proofs.YtchlojabjmlodaaDoor.AM
