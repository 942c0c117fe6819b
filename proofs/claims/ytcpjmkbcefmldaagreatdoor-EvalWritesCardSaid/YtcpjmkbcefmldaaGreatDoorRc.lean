/- A part of the proof: Ru2. -/
import Derived.Test.YtcpjmkbcefmldaaGreatDoorGo
import Derived.Test.YtcpjmkbcefmldaaGreatDoorRa
import Derived.Test.YtcpjmkbcefmldaaGreatDoorRb
import Derived.Test.YtcpjmkbcefmldaaGreatDoorH1
set_option linter.all false
/- The functions run as their models. -/
namespace Go.Proofs.YtcpjmkbcefmldaaGreatDoor.AM
open Go Go.Proofs
set_option maxRecDepth 20000
set_option maxHeartbeats 4000000

theorem en_store_Add : enters Tryz.prog 33 = true := by kernel_rfl
theorem store_Add_run {a0 : (List GSeries)} {a1 : (List GPair)} {a2 : GSample} {r : (List GSeries) × Int} (hm : store_Add a0 a1 a2 = some r) : Fun Tryz.prog 33 [(sl cGSeries) a0, (sl cGPair) a1, (ag cGSample) a2] (.tup [(sl cGSeries) r.1, vI r.2]) [] := by
  have c1 := @slicesInsert_GSeries_run
  have e1 := (by kernel_rfl : enters Tryz.prog 65 = true)
  have c2 := @store_named_run
  have e2 := en_store_named
  have c3 := @store_counted_run
  have e3 := en_store_counted
  have c4 := @store_find_run
  have e4 := en_store_find
  have c5 := @series_Append_run
  have e5 := (by kernel_rfl : enters Tryz.prog 63 = true)
  have c6 := @slices_Clone_Series_Series_run
  have e6 := en_slices_Clone_Series_Series
  refine Fun.of_model (X := fun r => .tup [(sl cGSeries) r.1, vI r.2]) (O := fun r => []) Tryz.func33 rfl (Nat.le_of_ble_eq_true (by kernel_rfl)) hm ?_
  simp only [Tryz.ntmps33, Tryz.results33, argsO]
  unfold store_Add
  clear hm
  exact walk

theorem en_law19_down : enters Tryz.prog 34 = true := by kernel_rfl
theorem law19_down_run {a0 : Int} {r : GRule} (hm : law19_down a0 = some r) : Fun Tryz.prog 34 [vI a0] ((ag cGRule) r) [] := by
  refine Fun.of_model (X := fun r => (ag cGRule) r) (O := fun r => []) Tryz.func34 rfl (Nat.le_of_ble_eq_true (by kernel_rfl)) hm ?_
  simp only [Tryz.ntmps34, Tryz.results34, argsO]
  unfold law19_down
  clear hm
  exact walk

theorem en_sel_Sane : enters Tryz.prog 68 = true := by kernel_rfl
theorem sel_Sane_run {a0 : GSel} {r : Bool} (hm : sel_Sane a0 = some r) : Fun Tryz.prog 68 [(ag cGSel) a0] (vB r) [] := by
  have c1 := @label_Name_run
  have e1 := en_label_Name
  refine Fun.of_model (X := fun r => vB r) (O := fun r => []) Tryz.func68 rfl (Nat.le_of_ble_eq_true (by kernel_rfl)) hm ?_
  simp only [Tryz.ntmps68, Tryz.results68, argsO]
  unfold sel_Sane
  clear hm
  exact walk

theorem en_cond_isOp : enters Tryz.prog 69 = true := by kernel_rfl
theorem cond_isOp_run {a0 : Int} {r : Bool} (hm : cond_isOp a0 = some r) : Fun Tryz.prog 69 [vI a0] (vB r) [] := by
  refine Fun.of_model (X := fun r => vB r) (O := fun r => []) Tryz.func69 rfl (Nat.le_of_ble_eq_true (by kernel_rfl)) hm ?_
  simp only [Tryz.ntmps69, Tryz.results69, argsO]
  unfold cond_isOp
  clear hm
  exact walk

theorem en_cond_Sane : enters Tryz.prog 40 = true := by kernel_rfl
theorem cond_Sane_run {a0 : GExpr} {r : Bool} (hm : cond_Sane a0 = some r) : Fun Tryz.prog 40 [(ag cGExpr) a0] (vB r) [] := by
  have c1 := @num_Sane_run
  have e1 := en_num_Sane
  have c2 := @sel_Sane_run
  have e2 := en_sel_Sane
  have c3 := @cond_isOp_run
  have e3 := en_cond_isOp
  refine Fun.of_model (X := fun r => vB r) (O := fun r => []) Tryz.func40 rfl (Nat.le_of_ble_eq_true (by kernel_rfl)) hm ?_
  simp only [Tryz.ntmps40, Tryz.results40, argsO]
  unfold cond_Sane
  clear hm
  exact walk

theorem en_dur_Sane : enters Tryz.prog 41 = true := by kernel_rfl
theorem dur_Sane_run {a0 : Int} {r : Bool} (hm : dur_Sane a0 = some r) : Fun Tryz.prog 41 [vI a0] (vB r) [] := by
  refine Fun.of_model (X := fun r => vB r) (O := fun r => []) Tryz.func41 rfl (Nat.le_of_ble_eq_true (by kernel_rfl)) hm ?_
  simp only [Tryz.ntmps41, Tryz.results41, argsO]
  unfold dur_Sane
  clear hm
  exact walk

theorem en_rule_Reserved : enters Tryz.prog 70 = true := by kernel_rfl
theorem rule_Reserved_run {a0 : Str} {r : Bool} (hm : rule_Reserved a0 = some r) : Fun Tryz.prog 70 [vS a0] (vB r) [] := by
  refine Fun.of_model (X := fun r => vB r) (O := fun r => []) Tryz.func70 rfl (Nat.le_of_ble_eq_true (by kernel_rfl)) hm ?_
  simp only [Tryz.ntmps70, Tryz.results70, argsO]
  unfold rule_Reserved
  clear hm
  exact walk

theorem en_rule_reserved : enters Tryz.prog 42 = true := by kernel_rfl
theorem rule_reserved_run {a0 : (List GPair)} {r : Bool} (hm : rule_reserved a0 = some r) : Fun Tryz.prog 42 [(sl cGPair) a0] (vB r) [] := by
  have c1 := @rule_Reserved_run
  have e1 := en_rule_Reserved
  refine Fun.of_model (X := fun r => vB r) (O := fun r => []) Tryz.func42 rfl (Nat.le_of_ble_eq_true (by kernel_rfl)) hm ?_
  simp only [Tryz.ntmps42, Tryz.results42, argsO]
  unfold rule_reserved
  clear hm
  exact walk

theorem en_rule_Sane : enters Tryz.prog 12 = true := by kernel_rfl
theorem rule_Sane_run {a0 : GRule} {r : Bool} (hm : rule_Sane a0 = some r) : Fun Tryz.prog 12 [(ag cGRule) a0] (vB r) [] := by
  have c1 := @label_Sane_run
  have e1 := en_label_Sane
  have c2 := @label_Name_run
  have e2 := en_label_Name
  have c3 := @cond_Sane_run
  have e3 := en_cond_Sane
  have c4 := @dur_Sane_run
  have e4 := en_dur_Sane
  have c5 := @rule_reserved_run
  have e5 := en_rule_reserved
  refine Fun.of_model (X := fun r => vB r) (O := fun r => []) Tryz.func12 rfl (Nat.le_of_ble_eq_true (by kernel_rfl)) hm ?_
  simp only [Tryz.ntmps12, Tryz.results12, argsO]
  unfold rule_Sane
  clear hm
  exact walk

theorem en_sel_Fits : enters Tryz.prog 46 = true := by kernel_rfl
theorem sel_Fits_run {a0 : GSel} {a1 : (List GPair)} {r : Bool} (hm : sel_Fits a0 a1 = some r) : Fun Tryz.prog 46 [(ag cGSel) a0, (sl cGPair) a1] (vB r) [] := by
  have c1 := @label_Get_run
  have e1 := en_label_Get
  have c2 := @label_Sane_run
  have e2 := en_label_Sane
  have c3 := @sel_Sane_run
  have e3 := en_sel_Sane
  refine Fun.of_model (X := fun r => vB r) (O := fun r => []) Tryz.func46 rfl (Nat.le_of_ble_eq_true (by kernel_rfl)) hm ?_
  simp only [Tryz.ntmps46, Tryz.results46, argsO]
  unfold sel_Fits
  clear hm
  exact walk

theorem en_store_Select : enters Tryz.prog 14 = true := by kernel_rfl
theorem store_Select_run {a0 : (List GSeries)} {a1 : GSel} {a2 : Int} {a3 : Int} {r : (List GFound)} (hm : store_Select a0 a1 a2 a3 = some r) : Fun Tryz.prog 14 [(sl cGSeries) a0, (ag cGSel) a1, vI a2, vI a3] (so 1 cGFound r) [.dead, tk r.length 3 41] := by
  have c1 := @store_counted_run
  have e1 := en_store_counted
  have c2 := @sel_Fits_run
  have e2 := en_sel_Fits
  have c3 := @series_At_run
  have e3 := (by kernel_rfl : enters Tryz.prog 47 = true)
  refine Fun.of_model (X := fun r => so 1 cGFound r) (O := fun r => [.dead, tk r.length 3 41]) Tryz.func14 rfl (Nat.le_of_ble_eq_true (by kernel_rfl)) hm ?_
  simp only [Tryz.ntmps14, Tryz.results14, argsO]
  unfold store_Select
  clear hm
  exact walk

theorem en_cond_Holds : enters Tryz.prog 15 = true := by kernel_rfl
theorem cond_Holds_run {a0 : Int} {a1 : Int} {a2 : Int} {r : Bool} (hm : cond_Holds a0 a1 a2 = some r) : Fun Tryz.prog 15 [vI a0, vI a1, vI a2] (vB r) [] := by
  refine Fun.of_model (X := fun r => vB r) (O := fun r => []) Tryz.func15 rfl (Nat.le_of_ble_eq_true (by kernel_rfl)) hm ?_
  simp only [Tryz.ntmps15, Tryz.results15, argsO]
  unfold cond_Holds
  clear hm
  exact walk

end Go.Proofs.YtcpjmkbcefmldaaGreatDoor.AM
