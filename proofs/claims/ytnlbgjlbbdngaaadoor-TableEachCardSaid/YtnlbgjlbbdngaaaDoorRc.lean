/- A part of the proof: Ru2. -/
import Derived.Test.YtnlbgjlbbdngaaaDoorGo
import Derived.Test.YtnlbgjlbbdngaaaDoorRa
import Derived.Test.YtnlbgjlbbdngaaaDoorRb
set_option linter.all false
/- The functions run as their models. -/
namespace Go.Proofs.YtnlbgjlbbdngaaaDoor.AM
open Go Go.Proofs
set_option maxRecDepth 20000
set_option maxHeartbeats 4000000

theorem en_hold_Now : enters Tryd.prog 30 = true := by kernel_rfl
theorem hold_Now_run {a0 : GHold} {a1 : Int} {a2 : Int} {r : Int} (hm : hold_Now a0 a1 a2 = some r) : Fun Tryd.prog 30 [(ag cGHold) a0, vI a1, vI a2] (vI r) [] := by
  have c1 := @hold_counted_run
  have e1 := en_hold_counted
  have c2 := @hold_bounded_run
  have e2 := en_hold_bounded
  refine Fun.of_model (X := fun r => vI r) (O := fun r => []) Tryd.func30 rfl (Nat.le_of_ble_eq_true (by kernel_rfl)) hm ?_
  simp only [Tryd.ntmps30, Tryd.results30, argsO]
  unfold hold_Now
  clear hm
  exact walk

theorem en_hold_Step : enters Tryd.prog 16 = true := by kernel_rfl
theorem hold_Step_run {a0 : GHold} {a1 : Bool} {a2 : Int} {a3 : Int} {a4 : Int} {r : GHold × Int} (hm : hold_Step a0 a1 a2 a3 a4 = some r) : Fun Tryd.prog 16 [(ag cGHold) a0, vB a1, vI a2, vI a3, vI a4] (.tup [(ag cGHold) r.1, vI r.2]) [] := by
  have c1 := @hold_counted_run
  have e1 := en_hold_counted
  have c2 := @hold_bounded_run
  have e2 := en_hold_bounded
  have c3 := @hold_Now_run
  have e3 := en_hold_Now
  refine Fun.of_model (X := fun r => .tup [(ag cGHold) r.1, vI r.2]) (O := fun r => []) Tryd.func16 rfl (Nat.le_of_ble_eq_true (by kernel_rfl)) hm ?_
  simp only [Tryd.ntmps16, Tryd.results16, argsO]
  unfold hold_Step
  clear hm
  exact walk

theorem en_hold_Gone : enters Tryd.prog 17 = true := by kernel_rfl
theorem hold_Gone_run {a0 : GHold} {a1 : Int} {a2 : Int} {r : Bool} (hm : hold_Gone a0 a1 a2 = some r) : Fun Tryd.prog 17 [(ag cGHold) a0, vI a1, vI a2] (vB r) [] := by
  have c1 := @hold_counted_run
  have e1 := en_hold_counted
  have c2 := @hold_bounded_run
  have e2 := en_hold_bounded
  have c3 := @hold_Now_run
  have e3 := en_hold_Now
  refine Fun.of_model (X := fun r => vB r) (O := fun r => []) Tryd.func17 rfl (Nat.le_of_ble_eq_true (by kernel_rfl)) hm ?_
  simp only [Tryd.ntmps17, Tryd.results17, argsO]
  unfold hold_Gone
  clear hm
  exact walk

theorem en_table_sorted_1 : enters Tryd.prog 43 = true := by kernel_rfl
theorem table_sorted_1_run {a0 : GAlert} {a1 : GAlert} {r : Int} (hm : table_sorted_1 a0 a1 = some r) : Fun Tryd.prog 43 [(ag cGAlert) a0, (ag cGAlert) a1] (vI r) [] := by
  have c1 := @label_Compare_run
  have e1 := en_label_Compare
  refine Fun.of_model (X := fun r => vI r) (O := fun r => []) Tryd.func43 rfl (Nat.le_of_ble_eq_true (by kernel_rfl)) hm ?_
  simp only [Tryd.ntmps43, Tryd.results43, argsO]
  unfold table_sorted_1
  clear hm
  exact walk

theorem en_table_sorted_o : enters Tryd.prog 27 = true := by kernel_rfl
theorem table_sorted_o_run {a0 : (List (Str × GAlert))} {r : (List GAlert)} (hm : table_sorted_o a0 = some r) : FunO Tryd.prog 27 [.map 0] [.map (mp kS (ag cGAlert) a0)] ((sl cGAlert) r) [.map (mp kS (ag cGAlert) a0)] := by
  have c1 := @table_sorted_1_run
  have e1 := en_table_sorted_1
  have s1 := sortCon_42_43
  have so1 := sortCon0_42_43
  have se1 := sortEn_42
  have j1 := @cGAlert_inj
  refine FunO.of_model (oin := [.map (mp kS (ag cGAlert) a0)]) (X := fun r => (sl cGAlert) r) (O := fun r => [.map (mp kS (ag cGAlert) a0)]) Tryd.func27 rfl (Nat.le_of_ble_eq_true (by kernel_rfl)) hm (n0 := 1) rfl ?_
  simp only [Tryd.ntmps27, Tryd.results27, argsO]
  unfold table_sorted_o
  clear hm
  exact walk

theorem en_table_Step : enters Tryd.prog 13 = true := by kernel_rfl
theorem table_Step_run {a0 : GTable} {a1 : (List GFound)} {a2 : Int} {a3 : Int} {a4 : Int} {r : GTable} (hm : table_Step a0 a1 a2 a3 a4 = some r) : Fun Tryd.prog 13 [(ag cGTable) a0, (sl cGFound) a1, vI a2, vI a3, vI a4] ((ag cGTable) r) [] := by
  have c1 := @table_sorted_o_run
  have e1 := en_table_sorted_o
  have c2 := @hold_Step_run
  have e2 := en_hold_Step
  have c3 := @hold_Gone_run
  have e3 := en_hold_Gone
  have c4 := @table_counted_run
  have e4 := en_table_counted
  have c5 := @table_distinct_run
  have e5 := en_table_distinct
  have c6 := @table_key_run
  have e6 := en_table_key
  have z1 := zv_35
  have z2 := zv_49
  refine Fun.of_model (X := fun r => (ag cGTable) r) (O := fun r => []) Tryd.func13 rfl (Nat.le_of_ble_eq_true (by kernel_rfl)) hm ?_
  simp only [Tryd.ntmps13, Tryd.results13, argsO]
  unfold table_Step
  clear hm
  exact walk

theorem en_table_Find : enters Tryd.prog 14 = true := by kernel_rfl
theorem table_Find_run {a0 : GTable} {a1 : (List GPair)} {r : GAlert × Bool} (hm : table_Find a0 a1 = some r) : Fun Tryd.prog 14 [(ag cGTable) a0, (sl cGPair) a1] (.tup [(ag cGAlert) r.1, vB r.2]) [] := by
  have c1 := @label_Sane_run
  have e1 := en_label_Sane
  have c2 := @label_Compare_run
  have e2 := en_label_Compare
  have c3 := @table_counted_run
  have e3 := en_table_counted
  refine Fun.of_model (X := fun r => .tup [(ag cGAlert) r.1, vB r.2]) (O := fun r => []) Tryd.func14 rfl (Nat.le_of_ble_eq_true (by kernel_rfl)) hm ?_
  simp only [Tryd.ntmps14, Tryd.results14, argsO]
  unfold table_Find
  clear hm
  exact walk

theorem en_table_Active : enters Tryd.prog 18 = true := by kernel_rfl
theorem table_Active_run {a0 : GTable} {r : (List GAlert)} (hm : table_Active a0 = some r) : Fun Tryd.prog 18 [(ag cGTable) a0] (so 1 cGAlert r) [.dead, tk r.length 7 35] := by
  have c1 := @table_counted_run
  have e1 := en_table_counted
  refine Fun.of_model (X := fun r => so 1 cGAlert r) (O := fun r => [.dead, tk r.length 7 35]) Tryd.func18 rfl (Nat.le_of_ble_eq_true (by kernel_rfl)) hm ?_
  simp only [Tryd.ntmps18, Tryd.results18, argsO]
  unfold table_Active
  clear hm
  exact walk

theorem en_law17_awake : enters Tryd.prog 7 = true := by kernel_rfl
theorem law17_awake_run {r : Bool} (hm : law17_awake = some r) : Fun Tryd.prog 7 [] (vB r) [] := by
  have c1 := @table_Sane_run
  have e1 := en_table_Sane
  have c2 := @table_Step_run
  have e2 := en_table_Step
  have c3 := @table_Find_run
  have e3 := en_table_Find
  have c4 := @table_Active_run
  have e4 := en_table_Active
  have c5 := @law17_found_run
  have e5 := en_law17_found
  refine Fun.of_model (X := fun r => vB r) (O := fun r => []) Tryd.func7 rfl (Nat.le_of_ble_eq_true (by kernel_rfl)) hm ?_
  simp only [Tryd.ntmps7, Tryd.results7, argsO]
  unfold law17_awake
  clear hm
  exact walk

theorem en_ref03_Few : enters Tryd.prog 10 = true := by kernel_rfl
theorem ref03_Few_run {a0 : (List GPair)} {r : Bool} (hm : ref03_Few a0 = some r) : Fun Tryd.prog 10 [(sl cGPair) a0] (vB r) [] := by
  refine Fun.of_model (X := fun r => vB r) (O := fun r => []) Tryd.func10 rfl (Nat.le_of_ble_eq_true (by kernel_rfl)) hm ?_
  simp only [Tryd.ntmps10, Tryd.results10, argsO]
  unfold ref03_Few
  clear hm
  exact walk

theorem en_ref17_Few : enters Tryd.prog 8 = true := by kernel_rfl
theorem ref17_Few_run {a0 : GTable} {r : Bool} (hm : ref17_Few a0 = some r) : Fun Tryd.prog 8 [(ag cGTable) a0] (vB r) [] := by
  have c1 := @ref03_Few_run
  have e1 := en_ref03_Few
  refine Fun.of_model (X := fun r => vB r) (O := fun r => []) Tryd.func8 rfl (Nat.le_of_ble_eq_true (by kernel_rfl)) hm ?_
  simp only [Tryd.ntmps8, Tryd.results8, argsO]
  unfold ref17_Few
  clear hm
  exact walk

theorem en_ref17_FewFound : enters Tryd.prog 9 = true := by kernel_rfl
theorem ref17_FewFound_run {a0 : (List GFound)} {r : Bool} (hm : ref17_FewFound a0 = some r) : Fun Tryd.prog 9 [(sl cGFound) a0] (vB r) [] := by
  have c1 := @ref03_Few_run
  have e1 := en_ref03_Few
  refine Fun.of_model (X := fun r => vB r) (O := fun r => []) Tryd.func9 rfl (Nat.le_of_ble_eq_true (by kernel_rfl)) hm ?_
  simp only [Tryd.ntmps9, Tryd.results9, argsO]
  unfold ref17_FewFound
  clear hm
  exact walk

end Go.Proofs.YtnlbgjlbbdngaaaDoor.AM
