/- A part of the proof: Ru3. -/
import Derived.Test.YtchlojabjmlodaaDoorGo
import Derived.Test.YtchlojabjmlodaaDoorRa
import Derived.Test.YtchlojabjmlodaaDoorRc
set_option linter.all false
/- The functions run as their models. -/
namespace Go.Proofs.YtchlojabjmlodaaDoor.AM
open Go Go.Proofs
set_option maxRecDepth 20000
set_option maxHeartbeats 4000000

theorem en_queue_nearest : enters Tryd.prog 33 = true := by kernel_rfl
theorem queue_nearest_run {a0 : Int} {r : Int} (hm : queue_nearest a0 = some r) : Fun Tryd.prog 33 [vI a0] (vI r) [] := by
  refine Fun.of_model (X := fun r => vI r) (O := fun r => []) Tryd.func33 rfl (Nat.le_of_ble_eq_true (by kernel_rfl)) hm ?_
  simp only [Tryd.ntmps33, Tryd.results33, argsO]
  unfold queue_nearest
  clear hm
  exact walk

theorem en_slices_Clone_Note_Note : enters Tryd.prog 34 = true := by kernel_rfl
theorem slices_Clone_Note_Note_run {a0 : (List GNote)} {r : (List GNote)} (hm : slices_Clone_Note_Note a0 = some r) : Fun Tryd.prog 34 [(sl cGNote) a0] (so 0 cGNote r) [tk r.length 5 33] := by
  refine Fun.of_model (X := fun r => so 0 cGNote r) (O := fun r => [tk r.length 5 33]) Tryd.func34 rfl (Nat.le_of_ble_eq_true (by kernel_rfl)) hm ?_
  simp only [Tryd.ntmps34, Tryd.results34, argsO]
  unfold slices_Clone_Note_Note
  clear hm
  exact walk

theorem en_queue_Push : enters Tryd.prog 15 = true := by kernel_rfl
theorem queue_Push_run {a0 : GQueue} {a1 : (List GPair)} {a2 : Bool} {a3 : Int} {r : GQueue} (hm : queue_Push a0 a1 a2 a3 = some r) : Fun Tryd.prog 15 [(ag cGQueue) a0, (sl cGPair) a1, vB a2, vI a3] ((ag cGQueue) r) [] := by
  have c1 := @label_Sane_run
  have e1 := en_label_Sane
  have c2 := @queue_counted_run
  have e2 := en_queue_counted
  have c3 := @queue_nearest_run
  have e3 := en_queue_nearest
  have c4 := @slices_Clone_Note_Note_run
  have e4 := en_slices_Clone_Note_Note
  refine Fun.of_model (X := fun r => (ag cGQueue) r) (O := fun r => []) Tryd.func15 rfl (Nat.le_of_ble_eq_true (by kernel_rfl)) hm ?_
  simp only [Tryd.ntmps15, Tryd.results15, argsO]
  unfold queue_Push
  clear hm
  exact walk

theorem en_notify_tell_1 : enters Tryd.prog 36 = true := by kernel_rfl
theorem notify_tell_1_run {a0 : GTold} {a1 : (List GPair)} {r : Int} (hm : notify_tell_1 a0 a1 = some r) : Fun Tryd.prog 36 [(ag cGTold) a0, (sl cGPair) a1] (vI r) [] := by
  have c1 := @label_Compare_run
  have e1 := en_label_Compare
  refine Fun.of_model (X := fun r => vI r) (O := fun r => []) Tryd.func36 rfl (Nat.le_of_ble_eq_true (by kernel_rfl)) hm ?_
  simp only [Tryd.ntmps36, Tryd.results36, argsO]
  unfold notify_tell_1
  clear hm
  exact walk

theorem en_slices_BinarySearchFunc_Told_Told_Pair_notify_tell_1 : enters Tryd.prog 35 = true := by kernel_rfl
theorem slices_BinarySearchFunc_Told_Told_Pair_notify_tell_1_run {a0 : (List GTold)} {a1 : (List GPair)} {r : Int × Bool} (hm : slices_BinarySearchFunc_Told_Told_Pair_notify_tell_1 a0 a1 = some r) : Fun Tryd.prog 35 [(sl cGTold) a0, (sl cGPair) a1, .fn 36 [] []] (.tup [vI r.1, vB r.2]) [] := by
  have c1 := @notify_tell_1_run
  have e1 := en_notify_tell_1
  refine Fun.of_model (X := fun r => .tup [vI r.1, vB r.2]) (O := fun r => []) Tryd.func35 rfl (Nat.le_of_ble_eq_true (by kernel_rfl)) hm ?_
  simp only [Tryd.ntmps35, Tryd.results35, argsO]
  unfold slices_BinarySearchFunc_Told_Told_Pair_notify_tell_1
  clear hm
  exact walk

theorem en_notify_tell_o : enters Tryd.prog 16 = true := by kernel_rfl
theorem notify_tell_o_run {zv : Value} {a0 : GQueue} {a1 : (List GPair)} {a2 : Int} {a3 : Int} {a4 : (List GTold)} {r : (List GTold) × GQueue} (hm : notify_tell_o a0 a1 a2 a3 a4 = some r) : FunO Tryd.prog 16 [.v zv, .agg [sl cGNote a0.N, vI a0.Drops, vI a0.Lost], sl cGPair a1, vI a2, vI a3] [.lin zv 2 35 (a4.map cGTold)] (.tup [so 1 cGTold r.1, (ag cGQueue) r.2]) [.dead, tk r.1.length 2 35] := by
  have c1 := @slicesInsert_GTold_run
  have e1 := (by kernel_rfl : enters Tryd.prog 37 = true)
  have c2 := @slices_BinarySearchFunc_Told_Told_Pair_notify_tell_1_run
  have e2 := en_slices_BinarySearchFunc_Told_Told_Pair_notify_tell_1
  have c3 := @queue_Push_run
  have e3 := en_queue_Push
  refine FunO.of_modelW (oin := [.lin zv 2 35 (a4.map cGTold)]) (X := fun r => .tup [so 1 cGTold r.1, (ag cGQueue) r.2]) (O := fun r => [.dead, tk r.1.length 2 35]) Tryd.func16 rfl (Nat.le_of_ble_eq_true (by kernel_rfl)) hm (n0 := 1) rfl (W_unlin (o := argsO 0 [.v zv, .agg [sl cGNote a0.N, vI a0.Drops, vI a0.Lost], sl cGPair a1, vI a2, vI a3]) (d := 0) (k := 0) (objs' := [.dead, tk a4.length 2 35]) (Nat.le_of_ble_eq_true (by kernel_rfl)) rfl rfl rfl rfl) ?_
  simp only [Tryd.ntmps16, Tryd.results16, argsO]
  unfold notify_tell_o
  clear hm
  exact walk

theorem en_notify_Tell : enters Tryd.prog 7 = true := by kernel_rfl
theorem notify_Tell_run {a0 : (List GTold)} {a1 : GQueue} {a2 : (List GTable)} {a3 : Int} {a4 : Int} {r : (List GTold) × GQueue} (hm : notify_Tell a0 a1 a2 a3 a4 = some r) : Fun Tryd.prog 7 [(sl cGTold) a0, (ag cGQueue) a1, (sl cGTable) a2, vI a3, vI a4] (.tup [so 3 cGTold r.1, (ag cGQueue) r.2]) [.dead, .dead, .dead, tk r.1.length 2 35] := by
  have c1 := @notify_tell_o_run
  have e1 := en_notify_tell_o
  have c2 := @notify_Firing_run
  have e2 := en_notify_Firing
  have c3 := @queue_Sane_run
  have e3 := en_queue_Sane
  have c4 := @notify_keyOf_run
  have e4 := en_notify_keyOf
  have c5 := @queue_Push_run
  have e5 := en_queue_Push
  have c6 := @notify_Sane_run
  have e6 := en_notify_Sane
  have z1 := zv_4
  have k1 := kqA_55
  have y1 := akA_55
  refine Fun.of_model (X := fun r => .tup [so 3 cGTold r.1, (ag cGQueue) r.2]) (O := fun r => [.dead, .dead, .dead, tk r.1.length 2 35]) Tryd.func7 rfl (Nat.le_of_ble_eq_true (by kernel_rfl)) hm ?_
  simp only [Tryd.ntmps7, Tryd.results7, argsO]
  unfold notify_Tell
  clear hm
  exact walk

theorem en_law23_awake : enters Tryd.prog 4 = true := by kernel_rfl
theorem law23_awake_run {r : Bool} (hm : law23_awake = some r) : Fun Tryd.prog 4 [] (vB r) [] := by
  have c1 := @notify_Firing_run
  have e1 := en_notify_Firing
  have c2 := @notify_Sane_run
  have e2 := en_notify_Sane
  have c3 := @notify_Tell_run
  have e3 := en_notify_Tell
  have c4 := @table_Step_run
  have e4 := en_table_Step
  refine Fun.of_model (X := fun r => vB r) (O := fun r => []) Tryd.func4 rfl (Nat.le_of_ble_eq_true (by kernel_rfl)) hm ?_
  simp only [Tryd.ntmps4, Tryd.results4, argsO]
  unfold law23_awake
  clear hm
  exact walk

theorem en_ref03_Few : enters Tryd.prog 11 = true := by kernel_rfl
theorem ref03_Few_run {a0 : (List GPair)} {r : Bool} (hm : ref03_Few a0 = some r) : Fun Tryd.prog 11 [(sl cGPair) a0] (vB r) [] := by
  refine Fun.of_model (X := fun r => vB r) (O := fun r => []) Tryd.func11 rfl (Nat.le_of_ble_eq_true (by kernel_rfl)) hm ?_
  simp only [Tryd.ntmps11, Tryd.results11, argsO]
  unfold ref03_Few
  clear hm
  exact walk

theorem en_ref23_Few : enters Tryd.prog 5 = true := by kernel_rfl
theorem ref23_Few_run {a0 : (List GTold)} {r : Bool} (hm : ref23_Few a0 = some r) : Fun Tryd.prog 5 [(sl cGTold) a0] (vB r) [] := by
  have c1 := @ref03_Few_run
  have e1 := en_ref03_Few
  refine Fun.of_model (X := fun r => vB r) (O := fun r => []) Tryd.func5 rfl (Nat.le_of_ble_eq_true (by kernel_rfl)) hm ?_
  simp only [Tryd.ntmps5, Tryd.results5, argsO]
  unfold ref23_Few
  clear hm
  exact walk

theorem en_law23_NotifyNone : enters Tryd.prog 3 = true := by kernel_rfl
theorem law23_NotifyNone_run {a0 : (List GTold)} {a1 : Int} {a2 : Int} {r : Bool} (hm : law23_NotifyNone a0 a1 a2 = some r) : Fun Tryd.prog 3 [(sl cGTold) a0, vI a1, vI a2] (vB r) [] := by
  have c1 := @law23_awake_run
  have e1 := en_law23_awake
  have c2 := @ref23_Few_run
  have e2 := en_ref23_Few
  have c3 := @notify_Sane_run
  have e3 := en_notify_Sane
  have c4 := @notify_Tell_run
  have e4 := en_notify_Tell
  have c5 := @label_Compare_run
  have e5 := en_label_Compare
  refine Fun.of_model (X := fun r => vB r) (O := fun r => []) Tryd.func3 rfl (Nat.le_of_ble_eq_true (by kernel_rfl)) hm ?_
  simp only [Tryd.ntmps3, Tryd.results3, argsO]
  unfold law23_NotifyNone
  clear hm
  exact walk

end Go.Proofs.YtchlojabjmlodaaDoor.AM
