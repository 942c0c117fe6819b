/- A part of the proof: Ru2. -/
import Derived.Test.YtoekflobllmeeaaGreatDoorGo
import Derived.Test.YtoekflobllmeeaaGreatDoorRa
import Derived.Test.YtoekflobllmeeaaGreatDoorRb
set_option linter.all false
/- The functions run as their models. -/
namespace Go.Proofs.YtoekflobllmeeaaGreatDoor.AM
open Go Go.Proofs
set_option maxRecDepth 20000
set_option maxHeartbeats 4000000

theorem en_hold_Step : enters Tryz.prog 42 = true := by kernel_rfl
theorem hold_Step_run {a0 : GHold} {a1 : Bool} {a2 : Int} {a3 : Int} {a4 : Int} {r : GHold × Int} (hm : hold_Step a0 a1 a2 a3 a4 = some r) : Fun Tryz.prog 42 [(ag cGHold) a0, vB a1, vI a2, vI a3, vI a4] (.tup [(ag cGHold) r.1, vI r.2]) [] := by
  have c1 := @hold_counted_run
  have e1 := en_hold_counted
  have c2 := @hold_bounded_run
  have e2 := en_hold_bounded
  have c3 := @hold_Now_run
  have e3 := en_hold_Now
  refine Fun.of_model (X := fun r => .tup [(ag cGHold) r.1, vI r.2]) (O := fun r => []) Tryz.func42 rfl (Nat.le_of_ble_eq_true (by kernel_rfl)) hm ?_
  simp only [Tryz.ntmps42, Tryz.results42, argsO]
  unfold hold_Step
  clear hm
  exact walk

theorem en_hold_Gone : enters Tryz.prog 43 = true := by kernel_rfl
theorem hold_Gone_run {a0 : GHold} {a1 : Int} {a2 : Int} {r : Bool} (hm : hold_Gone a0 a1 a2 = some r) : Fun Tryz.prog 43 [(ag cGHold) a0, vI a1, vI a2] (vB r) [] := by
  have c1 := @hold_counted_run
  have e1 := en_hold_counted
  have c2 := @hold_bounded_run
  have e2 := en_hold_bounded
  have c3 := @hold_Now_run
  have e3 := en_hold_Now
  refine Fun.of_model (X := fun r => vB r) (O := fun r => []) Tryz.func43 rfl (Nat.le_of_ble_eq_true (by kernel_rfl)) hm ?_
  simp only [Tryz.ntmps43, Tryz.results43, argsO]
  unfold hold_Gone
  clear hm
  exact walk

theorem en_table_sorted_1 : enters Tryz.prog 81 = true := by kernel_rfl
theorem table_sorted_1_run {a0 : GAlert} {a1 : GAlert} {r : Int} (hm : table_sorted_1 a0 a1 = some r) : Fun Tryz.prog 81 [(ag cGAlert) a0, (ag cGAlert) a1] (vI r) [] := by
  have c1 := @label_Compare_run
  have e1 := en_label_Compare
  refine Fun.of_model (X := fun r => vI r) (O := fun r => []) Tryz.func81 rfl (Nat.le_of_ble_eq_true (by kernel_rfl)) hm ?_
  simp only [Tryz.ntmps81, Tryz.results81, argsO]
  unfold table_sorted_1
  clear hm
  exact walk

theorem en_table_sorted_o : enters Tryz.prog 44 = true := by kernel_rfl
theorem table_sorted_o_run {a0 : (List (Str × GAlert))} {r : (List GAlert)} (hm : table_sorted_o a0 = some r) : FunO Tryz.prog 44 [.map 0] [.map (mp kS (ag cGAlert) a0)] ((sl cGAlert) r) [.map (mp kS (ag cGAlert) a0)] := by
  have c1 := @table_sorted_1_run
  have e1 := en_table_sorted_1
  have s1 := sortCon_80_81
  have so1 := sortCon0_80_81
  have se1 := sortEn_80
  have j1 := @cGAlert_inj
  refine FunO.of_model (oin := [.map (mp kS (ag cGAlert) a0)]) (X := fun r => (sl cGAlert) r) (O := fun r => [.map (mp kS (ag cGAlert) a0)]) Tryz.func44 rfl (Nat.le_of_ble_eq_true (by kernel_rfl)) hm (n0 := 1) rfl ?_
  simp only [Tryz.ntmps44, Tryz.results44, argsO]
  unfold table_sorted_o
  clear hm
  exact walk

theorem en_table_Step : enters Tryz.prog 20 = true := by kernel_rfl
theorem table_Step_run {a0 : GTable} {a1 : (List GFound)} {a2 : Int} {a3 : Int} {a4 : Int} {r : GTable} (hm : table_Step a0 a1 a2 a3 a4 = some r) : Fun Tryz.prog 20 [(ag cGTable) a0, (sl cGFound) a1, vI a2, vI a3, vI a4] ((ag cGTable) r) [] := by
  have c1 := @table_sorted_o_run
  have e1 := en_table_sorted_o
  have c2 := @table_counted_run
  have e2 := en_table_counted
  have c3 := @table_distinct_run
  have e3 := en_table_distinct
  have c4 := @table_key_run
  have e4 := en_table_key
  have c5 := @hold_Step_run
  have e5 := en_hold_Step
  have c6 := @hold_Gone_run
  have e6 := en_hold_Gone
  have z1 := zv_45
  have z2 := zv_54
  refine Fun.of_model (X := fun r => (ag cGTable) r) (O := fun r => []) Tryz.func20 rfl (Nat.le_of_ble_eq_true (by kernel_rfl)) hm ?_
  simp only [Tryz.ntmps20, Tryz.results20, argsO]
  unfold table_Step
  clear hm
  exact walk

theorem en_strings_Compare : enters Tryz.prog 59 = true := by kernel_rfl
theorem strings_Compare_run {a0 : Str} {a1 : Str} {r : Int} (hm : strings_Compare a0 a1 = some r) : Fun Tryz.prog 59 [vS a0, vS a1] (vI r) [] := by
  have c1 := @bytealg_CompareString_run
  have e1 := (by kernel_rfl : enters Tryz.prog 92 = true)
  refine Fun.of_model (X := fun r => vI r) (O := fun r => []) Tryz.func59 rfl (Nat.le_of_ble_eq_true (by kernel_rfl)) hm ?_
  simp only [Tryz.ntmps59, Tryz.results59, argsO]
  unfold strings_Compare
  clear hm
  exact walk

theorem en_snap_compare : enters Tryz.prog 28 = true := by kernel_rfl
theorem snap_compare_run {a0 : GKey} {a1 : GKey} {r : Int} (hm : snap_compare a0 a1 = some r) : Fun Tryz.prog 28 [(ag cGKey) a0, (ag cGKey) a1] (vI r) [] := by
  have c1 := @cmp_Or_int_run
  have e1 := en_cmp_Or_int
  have c2 := @strings_Compare_run
  have e2 := en_strings_Compare
  refine Fun.of_model (X := fun r => vI r) (O := fun r => []) Tryz.func28 rfl (Nat.le_of_ble_eq_true (by kernel_rfl)) hm ?_
  simp only [Tryz.ntmps28, Tryz.results28, argsO]
  unfold snap_compare
  clear hm
  exact walk

theorem en_snap_Sane : enters Tryz.prog 12 = true := by kernel_rfl
theorem snap_Sane_run {a0 : (List GSaved)} {r : Bool} (hm : snap_Sane a0 = some r) : Fun Tryz.prog 12 [(sl cGSaved) a0] (vB r) [] := by
  have c1 := @label_Name_run
  have e1 := en_label_Name
  have c2 := @table_Sane_run
  have e2 := en_table_Sane
  have c3 := @snap_compare_run
  have e3 := en_snap_compare
  refine Fun.of_model (X := fun r => vB r) (O := fun r => []) Tryz.func12 rfl (Nat.le_of_ble_eq_true (by kernel_rfl)) hm ?_
  simp only [Tryz.ntmps12, Tryz.results12, argsO]
  unfold snap_Sane
  clear hm
  exact walk

theorem en_slices_Clone_byte_byte : enters Tryz.prog 66 = true := by kernel_rfl
theorem slices_Clone_byte_byte_run {a0 : (List Int)} {r : (List Int)} (hm : slices_Clone_byte_byte a0 = some r) : Fun Tryz.prog 66 [(sl (cK .u8)) a0] (so 0 (cK .u8) r) [tk r.length 1 5] := by
  refine Fun.of_model (X := fun r => so 0 (cK .u8) r) (O := fun r => [tk r.length 1 5]) Tryz.func66 rfl (Nat.le_of_ble_eq_true (by kernel_rfl)) hm ?_
  simp only [Tryz.ntmps66, Tryz.results66, argsO]
  unfold slices_Clone_byte_byte
  clear hm
  exact walk

theorem en_codec_addUint_o : enters Tryz.prog 65 = true := by kernel_rfl
theorem codec_addUint_o_run {a0 : Int} {a1 : (List Int)} {a2 : Bool} {r : (List Int)} (hm : codec_addUint_o a0 a1 a2 = some r) : FunO Tryz.prog 65 [so 0 (cK .u8) a1, vI a0] [.tok a1.length 1 5 a2] (so 0 (cK .u8) r) [.tok r.length 1 5 a2] := by
  refine FunO.of_model (oin := [.tok a1.length 1 5 a2]) (X := fun r => so 0 (cK .u8) r) (O := fun r => [.tok r.length 1 5 a2]) Tryz.func65 rfl (Nat.le_of_ble_eq_true (by kernel_rfl)) hm (n0 := 1) rfl ?_
  simp only [Tryz.ntmps65, Tryz.results65, argsO]
  unfold codec_addUint_o
  clear hm
  exact walk

theorem en_codec_PutUint : enters Tryz.prog 32 = true := by kernel_rfl
theorem codec_PutUint_run {a0 : (List Int)} {a1 : Int} {r : (List Int)} (hm : codec_PutUint a0 a1 = some r) : Fun Tryz.prog 32 [(sl (cK .u8)) a0, vI a1] (so 0 (cK .u8) r) [tk r.length 1 5] := by
  have c1 := @codec_addUint_o_run
  have e1 := en_codec_addUint_o
  have c2 := @slices_Clone_byte_byte_run
  have e2 := en_slices_Clone_byte_byte
  refine Fun.of_model (X := fun r => so 0 (cK .u8) r) (O := fun r => [tk r.length 1 5]) Tryz.func32 rfl (Nat.le_of_ble_eq_true (by kernel_rfl)) hm ?_
  simp only [Tryz.ntmps32, Tryz.results32, argsO]
  unfold codec_PutUint
  clear hm
  exact walk

theorem en_codec_addText_o : enters Tryz.prog 67 = true := by kernel_rfl
theorem codec_addText_o_run {a0 : Str} {a1 : (List Int)} {a2 : Bool} {r : (List Int)} (hm : codec_addText_o a0 a1 a2 = some r) : FunO Tryz.prog 67 [so 0 (cK .u8) a1, vS a0] [.tok a1.length 1 5 a2] (so 0 (cK .u8) r) [.tok r.length 1 5 a2] := by
  have c1 := @codec_addUint_o_run
  have e1 := en_codec_addUint_o
  refine FunO.of_model (oin := [.tok a1.length 1 5 a2]) (X := fun r => so 0 (cK .u8) r) (O := fun r => [.tok r.length 1 5 a2]) Tryz.func67 rfl (Nat.le_of_ble_eq_true (by kernel_rfl)) hm (n0 := 1) rfl ?_
  simp only [Tryz.ntmps67, Tryz.results67, argsO]
  unfold codec_addText_o
  clear hm
  exact walk

end Go.Proofs.YtoekflobllmeeaaGreatDoor.AM
