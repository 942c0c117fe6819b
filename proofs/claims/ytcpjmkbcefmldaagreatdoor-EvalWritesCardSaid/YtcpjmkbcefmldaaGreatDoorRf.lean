/- A part of the proof: Ru5. -/
import Derived.Test.YtcpjmkbcefmldaaGreatDoorGo
import Derived.Test.YtcpjmkbcefmldaaGreatDoorRb
import Derived.Test.YtcpjmkbcefmldaaGreatDoorRc
import Derived.Test.YtcpjmkbcefmldaaGreatDoorRd
import Derived.Test.YtcpjmkbcefmldaaGreatDoorRe
set_option linter.all false
/- The functions run as their models. -/
namespace Go.Proofs.YtcpjmkbcefmldaaGreatDoor.AM
open Go Go.Proofs
set_option maxRecDepth 20000
set_option maxHeartbeats 4000000

theorem en_hold_Step : enters Tryz.prog 79 = true := by kernel_rfl
theorem hold_Step_run {a0 : GHold} {a1 : Bool} {a2 : Int} {a3 : Int} {a4 : Int} {r : GHold × Int} (hm : hold_Step a0 a1 a2 a3 a4 = some r) : Fun Tryz.prog 79 [(ag cGHold) a0, vB a1, vI a2, vI a3, vI a4] (.tup [(ag cGHold) r.1, vI r.2]) [] := by
  have c1 := @hold_counted_run
  have e1 := en_hold_counted
  have c2 := @hold_bounded_run
  have e2 := en_hold_bounded
  have c3 := @hold_Now_run
  have e3 := en_hold_Now
  refine Fun.of_model (X := fun r => .tup [(ag cGHold) r.1, vI r.2]) (O := fun r => []) Tryz.func79 rfl (Nat.le_of_ble_eq_true (by kernel_rfl)) hm ?_
  simp only [Tryz.ntmps79, Tryz.results79, argsO]
  unfold hold_Step
  clear hm
  exact walk

theorem en_hold_Gone : enters Tryz.prog 80 = true := by kernel_rfl
theorem hold_Gone_run {a0 : GHold} {a1 : Int} {a2 : Int} {r : Bool} (hm : hold_Gone a0 a1 a2 = some r) : Fun Tryz.prog 80 [(ag cGHold) a0, vI a1, vI a2] (vB r) [] := by
  have c1 := @hold_counted_run
  have e1 := en_hold_counted
  have c2 := @hold_bounded_run
  have e2 := en_hold_bounded
  have c3 := @hold_Now_run
  have e3 := en_hold_Now
  refine Fun.of_model (X := fun r => vB r) (O := fun r => []) Tryz.func80 rfl (Nat.le_of_ble_eq_true (by kernel_rfl)) hm ?_
  simp only [Tryz.ntmps80, Tryz.results80, argsO]
  unfold hold_Gone
  clear hm
  exact walk

theorem en_table_sorted_1 : enters Tryz.prog 100 = true := by kernel_rfl
theorem table_sorted_1_run {a0 : GAlert} {a1 : GAlert} {r : Int} (hm : table_sorted_1 a0 a1 = some r) : Fun Tryz.prog 100 [(ag cGAlert) a0, (ag cGAlert) a1] (vI r) [] := by
  have c1 := @label_Compare_run
  have e1 := en_label_Compare
  refine Fun.of_model (X := fun r => vI r) (O := fun r => []) Tryz.func100 rfl (Nat.le_of_ble_eq_true (by kernel_rfl)) hm ?_
  simp only [Tryz.ntmps100, Tryz.results100, argsO]
  unfold table_sorted_1
  clear hm
  exact walk

theorem en_table_sorted_o : enters Tryz.prog 81 = true := by kernel_rfl
theorem table_sorted_o_run {a0 : (List (Str × GAlert))} {r : (List GAlert)} (hm : table_sorted_o a0 = some r) : FunO Tryz.prog 81 [.map 0] [.map (mp kS (ag cGAlert) a0)] ((sl cGAlert) r) [.map (mp kS (ag cGAlert) a0)] := by
  have c1 := @table_sorted_1_run
  have e1 := en_table_sorted_1
  have s1 := sortCon_99_100
  have so1 := sortCon0_99_100
  have se1 := sortEn_99
  have j1 := @cGAlert_inj
  refine FunO.of_model (oin := [.map (mp kS (ag cGAlert) a0)]) (X := fun r => (sl cGAlert) r) (O := fun r => [.map (mp kS (ag cGAlert) a0)]) Tryz.func81 rfl (Nat.le_of_ble_eq_true (by kernel_rfl)) hm (n0 := 1) rfl ?_
  simp only [Tryz.ntmps81, Tryz.results81, argsO]
  unfold table_sorted_o
  clear hm
  exact walk

theorem en_table_Step : enters Tryz.prog 55 = true := by kernel_rfl
theorem table_Step_run {a0 : GTable} {a1 : (List GFound)} {a2 : Int} {a3 : Int} {a4 : Int} {r : GTable} (hm : table_Step a0 a1 a2 a3 a4 = some r) : Fun Tryz.prog 55 [(ag cGTable) a0, (sl cGFound) a1, vI a2, vI a3, vI a4] ((ag cGTable) r) [] := by
  have c1 := @table_sorted_o_run
  have e1 := en_table_sorted_o
  have c2 := @table_counted_run
  have e2 := en_table_counted
  have c3 := @table_distinct_run
  have e3 := en_table_distinct
  have c4 := @table_key_run
  have e4 := en_table_key
  have c5 := @hold_Step_run
  have e5 := en_hold_Step
  have c6 := @hold_Gone_run
  have e6 := en_hold_Gone
  have z1 := zv_41
  have z2 := zv_83
  refine Fun.of_model (X := fun r => (ag cGTable) r) (O := fun r => []) Tryz.func55 rfl (Nat.le_of_ble_eq_true (by kernel_rfl)) hm ?_
  simp only [Tryz.ntmps55, Tryz.results55, argsO]
  unfold table_Step
  clear hm
  exact walk

theorem en_table_Active : enters Tryz.prog 31 = true := by kernel_rfl
theorem table_Active_run {a0 : GTable} {r : (List GAlert)} (hm : table_Active a0 = some r) : Fun Tryz.prog 31 [(ag cGTable) a0] (so 1 cGAlert r) [.dead, tk r.length 7 83] := by
  have c1 := @table_counted_run
  have e1 := en_table_counted
  refine Fun.of_model (X := fun r => so 1 cGAlert r) (O := fun r => [.dead, tk r.length 7 83]) Tryz.func31 rfl (Nat.le_of_ble_eq_true (by kernel_rfl)) hm ?_
  simp only [Tryz.ntmps31, Tryz.results31, argsO]
  unfold table_Active
  clear hm
  exact walk

theorem en_label_With : enters Tryz.prog 18 = true := by kernel_rfl
theorem label_With_run {a0 : (List GPair)} {a1 : Str} {a2 : Str} {r : (List GPair) × Int} (hm : label_With a0 a1 a2 = some r) : Fun Tryz.prog 18 [(sl cGPair) a0, vS a1, vS a2] (.tup [(sl cGPair) r.1, vI r.2]) [] := by
  have c1 := @label_Without_run
  have e1 := en_label_Without
  have c2 := @label_Make_run
  have e2 := en_label_Make
  refine Fun.of_model (X := fun r => .tup [(sl cGPair) r.1, vI r.2]) (O := fun r => []) Tryz.func18 rfl (Nat.le_of_ble_eq_true (by kernel_rfl)) hm ?_
  simp only [Tryz.ntmps18, Tryz.results18, argsO]
  unfold label_With
  clear hm
  exact walk

theorem en_eval_written : enters Tryz.prog 58 = true := by kernel_rfl
theorem eval_written_run {a0 : GAlert} {r : (List GPair) × Int} (hm : eval_written a0 = some r) : Fun Tryz.prog 58 [(ag cGAlert) a0] (.tup [(sl cGPair) r.1, vI r.2]) [] := by
  have c1 := @label_With_run
  have e1 := en_label_With
  have gr1 := gl0_row
  refine Fun.of_model (X := fun r => .tup [(sl cGPair) r.1, vI r.2]) (O := fun r => []) Tryz.func58 rfl (Nat.le_of_ble_eq_true (by kernel_rfl)) hm ?_
  simp only [Tryz.ntmps58, Tryz.results58, argsO]
  unfold eval_written
  clear hm
  exact walk

theorem en_eval_Write : enters Tryz.prog 27 = true := by kernel_rfl
theorem eval_Write_run {a0 : (List GSeries)} {a1 : GTable} {a2 : Int} {r : (List GSeries) × Int} (hm : eval_Write a0 a1 a2 = some r) : Fun Tryz.prog 27 [(sl cGSeries) a0, (ag cGTable) a1, vI a2] (.tup [(sl cGSeries) r.1, vI r.2]) [] := by
  have c1 := @table_Active_run
  have e1 := en_table_Active
  have c2 := @store_Add_run
  have e2 := en_store_Add
  have c3 := @eval_counted_run
  have e3 := en_eval_counted
  have c4 := @eval_written_run
  have e4 := en_eval_written
  refine Fun.of_model (X := fun r => .tup [(sl cGSeries) r.1, vI r.2]) (O := fun r => []) Tryz.func27 rfl (Nat.le_of_ble_eq_true (by kernel_rfl)) hm ?_
  simp only [Tryz.ntmps27, Tryz.results27, argsO]
  unfold eval_Write
  clear hm
  exact walk

theorem en_eval_Group : enters Tryz.prog 24 = true := by kernel_rfl
theorem eval_Group_run {a0 : (List GSeries)} {a1 : GGroup} {a2 : (List GTable)} {a3 : Int} {r : (List GSeries) × (List GTable) × Int} (hm : eval_Group a0 a1 a2 a3 = some r) : Fun Tryz.prog 24 [(sl cGSeries) a0, (ag cGGroup) a1, (sl cGTable) a2, vI a3] (.tup [(sl cGSeries) r.1, so 1 cGTable r.2.1, vI r.2.2]) [.dead, tk r.2.1.length 2 71] := by
  have c1 := @eval_Rule_run
  have e1 := en_eval_Rule
  have c2 := @eval_Write_run
  have e2 := en_eval_Write
  have c3 := @eval_counted_run
  have e3 := en_eval_counted
  have c4 := @table_Step_run
  have e4 := en_table_Step
  refine Fun.of_model (X := fun r => .tup [(sl cGSeries) r.1, so 1 cGTable r.2.1, vI r.2.2]) (O := fun r => [.dead, tk r.2.1.length 2 71]) Tryz.func24 rfl (Nat.le_of_ble_eq_true (by kernel_rfl)) hm ?_
  simp only [Tryz.ntmps24, Tryz.results24, argsO]
  unfold eval_Group
  clear hm
  exact walk

theorem en_law19_awake : enters Tryz.prog 8 = true := by kernel_rfl
theorem law19_awake_run {r : Bool} (hm : law19_awake = some r) : Fun Tryz.prog 8 [] (vB r) [] := by
  have c1 := @eval_Rule_run
  have e1 := en_eval_Rule
  have c2 := @store_Select_run
  have e2 := en_store_Select
  have c3 := @eval_Group_run
  have e3 := en_eval_Group
  have c4 := @store_Add_run
  have e4 := en_store_Add
  have c5 := @law19_down_run
  have e5 := en_law19_down
  refine Fun.of_model (X := fun r => vB r) (O := fun r => []) Tryz.func8 rfl (Nat.le_of_ble_eq_true (by kernel_rfl)) hm ?_
  simp only [Tryz.ntmps8, Tryz.results8, argsO]
  unfold law19_awake
  clear hm
  exact walk

theorem en_ref03_Few : enters Tryz.prog 35 = true := by kernel_rfl
theorem ref03_Few_run {a0 : (List GPair)} {r : Bool} (hm : ref03_Few a0 = some r) : Fun Tryz.prog 35 [(sl cGPair) a0] (vB r) [] := by
  refine Fun.of_model (X := fun r => vB r) (O := fun r => []) Tryz.func35 rfl (Nat.le_of_ble_eq_true (by kernel_rfl)) hm ?_
  simp only [Tryz.ntmps35, Tryz.results35, argsO]
  unfold ref03_Few
  clear hm
  exact walk

end Go.Proofs.YtcpjmkbcefmldaaGreatDoor.AM
