/- A part of the proof: Ru3. -/
import Derived.Test.YtchlojabjmlodaaGreatDoorGo
import Derived.Test.YtchlojabjmlodaaGreatDoorRa
import Derived.Test.YtchlojabjmlodaaGreatDoorRc
set_option linter.all false
/- The functions run as their models. -/
namespace Go.Proofs.YtchlojabjmlodaaGreatDoor.AM
open Go Go.Proofs
set_option maxRecDepth 20000
set_option maxHeartbeats 4000000

theorem en_queue_nearest : enters Tryz.prog 43 = true := by kernel_rfl
theorem queue_nearest_run {a0 : Int} {r : Int} (hm : queue_nearest a0 = some r) : Fun Tryz.prog 43 [vI a0] (vI r) [] := by
  refine Fun.of_model (X := fun r => vI r) (O := fun r => []) Tryz.func43 rfl (Nat.le_of_ble_eq_true (by kernel_rfl)) hm ?_
  simp only [Tryz.ntmps43, Tryz.results43, argsO]
  unfold queue_nearest
  clear hm
  exact walk

theorem en_slices_Clone_Note_Note : enters Tryz.prog 44 = true := by kernel_rfl
theorem slices_Clone_Note_Note_run {a0 : (List GNote)} {r : (List GNote)} (hm : slices_Clone_Note_Note a0 = some r) : Fun Tryz.prog 44 [(sl cGNote) a0] (so 0 cGNote r) [tk r.length 5 35] := by
  refine Fun.of_model (X := fun r => so 0 cGNote r) (O := fun r => [tk r.length 5 35]) Tryz.func44 rfl (Nat.le_of_ble_eq_true (by kernel_rfl)) hm ?_
  simp only [Tryz.ntmps44, Tryz.results44, argsO]
  unfold slices_Clone_Note_Note
  clear hm
  exact walk

theorem en_queue_Push : enters Tryz.prog 25 = true := by kernel_rfl
theorem queue_Push_run {a0 : GQueue} {a1 : (List GPair)} {a2 : Bool} {a3 : Int} {r : GQueue} (hm : queue_Push a0 a1 a2 a3 = some r) : Fun Tryz.prog 25 [(ag cGQueue) a0, (sl cGPair) a1, vB a2, vI a3] ((ag cGQueue) r) [] := by
  have c1 := @label_Sane_run
  have e1 := en_label_Sane
  have c2 := @queue_counted_run
  have e2 := en_queue_counted
  have c3 := @queue_nearest_run
  have e3 := en_queue_nearest
  have c4 := @slices_Clone_Note_Note_run
  have e4 := en_slices_Clone_Note_Note
  refine Fun.of_model (X := fun r => (ag cGQueue) r) (O := fun r => []) Tryz.func25 rfl (Nat.le_of_ble_eq_true (by kernel_rfl)) hm ?_
  simp only [Tryz.ntmps25, Tryz.results25, argsO]
  unfold queue_Push
  clear hm
  exact walk

theorem en_notify_tell_1 : enters Tryz.prog 46 = true := by kernel_rfl
theorem notify_tell_1_run {a0 : GTold} {a1 : (List GPair)} {r : Int} (hm : notify_tell_1 a0 a1 = some r) : Fun Tryz.prog 46 [(ag cGTold) a0, (sl cGPair) a1] (vI r) [] := by
  have c1 := @label_Compare_run
  have e1 := en_label_Compare
  refine Fun.of_model (X := fun r => vI r) (O := fun r => []) Tryz.func46 rfl (Nat.le_of_ble_eq_true (by kernel_rfl)) hm ?_
  simp only [Tryz.ntmps46, Tryz.results46, argsO]
  unfold notify_tell_1
  clear hm
  exact walk

theorem en_slices_BinarySearchFunc_Told_Told_Pair_notify_tell_1 : enters Tryz.prog 45 = true := by kernel_rfl
theorem slices_BinarySearchFunc_Told_Told_Pair_notify_tell_1_run {a0 : (List GTold)} {a1 : (List GPair)} {r : Int × Bool} (hm : slices_BinarySearchFunc_Told_Told_Pair_notify_tell_1 a0 a1 = some r) : Fun Tryz.prog 45 [(sl cGTold) a0, (sl cGPair) a1, .fn 46 [] []] (.tup [vI r.1, vB r.2]) [] := by
  have c1 := @notify_tell_1_run
  have e1 := en_notify_tell_1
  refine Fun.of_model (X := fun r => .tup [vI r.1, vB r.2]) (O := fun r => []) Tryz.func45 rfl (Nat.le_of_ble_eq_true (by kernel_rfl)) hm ?_
  simp only [Tryz.ntmps45, Tryz.results45, argsO]
  unfold slices_BinarySearchFunc_Told_Told_Pair_notify_tell_1
  clear hm
  exact walk

theorem en_notify_tell_o : enters Tryz.prog 26 = true := by kernel_rfl
theorem notify_tell_o_run {zv : Value} {a0 : GQueue} {a1 : (List GPair)} {a2 : Int} {a3 : Int} {a4 : (List GTold)} {r : (List GTold) × GQueue} (hm : notify_tell_o a0 a1 a2 a3 a4 = some r) : FunO Tryz.prog 26 [.v zv, .agg [sl cGNote a0.N, vI a0.Drops, vI a0.Lost], sl cGPair a1, vI a2, vI a3] [.lin zv 2 61 (a4.map cGTold)] (.tup [so 1 cGTold r.1, (ag cGQueue) r.2]) [.dead, tk r.1.length 2 61] := by
  have c1 := @slicesInsert_GTold_run
  have e1 := (by kernel_rfl : enters Tryz.prog 47 = true)
  have c2 := @slices_BinarySearchFunc_Told_Told_Pair_notify_tell_1_run
  have e2 := en_slices_BinarySearchFunc_Told_Told_Pair_notify_tell_1
  have c3 := @queue_Push_run
  have e3 := en_queue_Push
  refine FunO.of_modelW (oin := [.lin zv 2 61 (a4.map cGTold)]) (X := fun r => .tup [so 1 cGTold r.1, (ag cGQueue) r.2]) (O := fun r => [.dead, tk r.1.length 2 61]) Tryz.func26 rfl (Nat.le_of_ble_eq_true (by kernel_rfl)) hm (n0 := 1) rfl (W_unlin (o := argsO 0 [.v zv, .agg [sl cGNote a0.N, vI a0.Drops, vI a0.Lost], sl cGPair a1, vI a2, vI a3]) (d := 0) (k := 0) (objs' := [.dead, tk a4.length 2 61]) (Nat.le_of_ble_eq_true (by kernel_rfl)) rfl rfl rfl rfl) ?_
  simp only [Tryz.ntmps26, Tryz.results26, argsO]
  unfold notify_tell_o
  clear hm
  exact walk

theorem en_notify_Tell : enters Tryz.prog 9 = true := by kernel_rfl
theorem notify_Tell_run {a0 : (List GTold)} {a1 : GQueue} {a2 : (List GTable)} {a3 : Int} {a4 : Int} {r : (List GTold) × GQueue} (hm : notify_Tell a0 a1 a2 a3 a4 = some r) : Fun Tryz.prog 9 [(sl cGTold) a0, (ag cGQueue) a1, (sl cGTable) a2, vI a3, vI a4] (.tup [so 3 cGTold r.1, (ag cGQueue) r.2]) [.dead, .dead, .dead, tk r.1.length 2 61] := by
  have c1 := @notify_tell_o_run
  have e1 := en_notify_tell_o
  have c2 := @queue_Sane_run
  have e2 := en_queue_Sane
  have c3 := @notify_Firing_run
  have e3 := en_notify_Firing
  have c4 := @notify_Sane_run
  have e4 := en_notify_Sane
  have c5 := @notify_keyOf_run
  have e5 := en_notify_keyOf
  have c6 := @queue_Push_run
  have e6 := en_queue_Push
  have z1 := zv_4
  have k1 := kqA_64
  have y1 := akA_64
  refine Fun.of_model (X := fun r => .tup [so 3 cGTold r.1, (ag cGQueue) r.2]) (O := fun r => [.dead, .dead, .dead, tk r.1.length 2 61]) Tryz.func9 rfl (Nat.le_of_ble_eq_true (by kernel_rfl)) hm ?_
  simp only [Tryz.ntmps9, Tryz.results9, argsO]
  unfold notify_Tell
  clear hm
  exact walk

theorem en_law23_awake : enters Tryz.prog 6 = true := by kernel_rfl
theorem law23_awake_run {r : Bool} (hm : law23_awake = some r) : Fun Tryz.prog 6 [] (vB r) [] := by
  have c1 := @notify_Firing_run
  have e1 := en_notify_Firing
  have c2 := @table_Step_run
  have e2 := en_table_Step
  have c3 := @notify_Sane_run
  have e3 := en_notify_Sane
  have c4 := @notify_Tell_run
  have e4 := en_notify_Tell
  refine Fun.of_model (X := fun r => vB r) (O := fun r => []) Tryz.func6 rfl (Nat.le_of_ble_eq_true (by kernel_rfl)) hm ?_
  simp only [Tryz.ntmps6, Tryz.results6, argsO]
  unfold law23_awake
  clear hm
  exact walk

theorem en_ref03_Few : enters Tryz.prog 22 = true := by kernel_rfl
theorem ref03_Few_run {a0 : (List GPair)} {r : Bool} (hm : ref03_Few a0 = some r) : Fun Tryz.prog 22 [(sl cGPair) a0] (vB r) [] := by
  refine Fun.of_model (X := fun r => vB r) (O := fun r => []) Tryz.func22 rfl (Nat.le_of_ble_eq_true (by kernel_rfl)) hm ?_
  simp only [Tryz.ntmps22, Tryz.results22, argsO]
  unfold ref03_Few
  clear hm
  exact walk

theorem en_ref23_Few : enters Tryz.prog 7 = true := by kernel_rfl
theorem ref23_Few_run {a0 : (List GTold)} {r : Bool} (hm : ref23_Few a0 = some r) : Fun Tryz.prog 7 [(sl cGTold) a0] (vB r) [] := by
  have c1 := @ref03_Few_run
  have e1 := en_ref03_Few
  refine Fun.of_model (X := fun r => vB r) (O := fun r => []) Tryz.func7 rfl (Nat.le_of_ble_eq_true (by kernel_rfl)) hm ?_
  simp only [Tryz.ntmps7, Tryz.results7, argsO]
  unfold ref23_Few
  clear hm
  exact walk

theorem en_ref17_Few : enters Tryz.prog 18 = true := by kernel_rfl
theorem ref17_Few_run {a0 : GTable} {r : Bool} (hm : ref17_Few a0 = some r) : Fun Tryz.prog 18 [(ag cGTable) a0] (vB r) [] := by
  have c1 := @ref03_Few_run
  have e1 := en_ref03_Few
  refine Fun.of_model (X := fun r => vB r) (O := fun r => []) Tryz.func18 rfl (Nat.le_of_ble_eq_true (by kernel_rfl)) hm ?_
  simp only [Tryz.ntmps18, Tryz.results18, argsO]
  unfold ref17_Few
  clear hm
  exact walk

theorem en_ref19_Few : enters Tryz.prog 23 = true := by kernel_rfl
theorem ref19_Few_run {a0 : (List GTable)} {r : Bool} (hm : ref19_Few a0 = some r) : Fun Tryz.prog 23 [(sl cGTable) a0] (vB r) [] := by
  have c1 := @ref17_Few_run
  have e1 := en_ref17_Few
  refine Fun.of_model (X := fun r => vB r) (O := fun r => []) Tryz.func23 rfl (Nat.le_of_ble_eq_true (by kernel_rfl)) hm ?_
  simp only [Tryz.ntmps23, Tryz.results23, argsO]
  unfold ref19_Few
  clear hm
  exact walk

end Go.Proofs.YtchlojabjmlodaaGreatDoor.AM
