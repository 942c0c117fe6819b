/- A part of the proof: Ru2. -/
import Derived.Test.YtoekflobllmeeaaDoorGo
import Derived.Test.YtoekflobllmeeaaDoorRa
import Derived.Test.YtoekflobllmeeaaDoorRb
set_option linter.all false
/- The functions run as their models. -/
namespace Go.Proofs.YtoekflobllmeeaaDoor.AM
open Go Go.Proofs
set_option maxRecDepth 20000
set_option maxHeartbeats 4000000

theorem en_hold_Step : enters Tryd.prog 22 = true := by kernel_rfl
theorem hold_Step_run {a0 : GHold} {a1 : Bool} {a2 : Int} {a3 : Int} {a4 : Int} {r : GHold × Int} (hm : hold_Step a0 a1 a2 a3 a4 = some r) : Fun Tryd.prog 22 [(ag cGHold) a0, vB a1, vI a2, vI a3, vI a4] (.tup [(ag cGHold) r.1, vI r.2]) [] := by
  have c1 := @hold_counted_run
  have e1 := en_hold_counted
  have c2 := @hold_bounded_run
  have e2 := en_hold_bounded
  have c3 := @hold_Now_run
  have e3 := en_hold_Now
  refine Fun.of_model (X := fun r => .tup [(ag cGHold) r.1, vI r.2]) (O := fun r => []) Tryd.func22 rfl (Nat.le_of_ble_eq_true (by kernel_rfl)) hm ?_
  simp only [Tryd.ntmps22, Tryd.results22, argsO]
  unfold hold_Step
  clear hm
  exact walk

theorem en_hold_Gone : enters Tryd.prog 23 = true := by kernel_rfl
theorem hold_Gone_run {a0 : GHold} {a1 : Int} {a2 : Int} {r : Bool} (hm : hold_Gone a0 a1 a2 = some r) : Fun Tryd.prog 23 [(ag cGHold) a0, vI a1, vI a2] (vB r) [] := by
  have c1 := @hold_counted_run
  have e1 := en_hold_counted
  have c2 := @hold_bounded_run
  have e2 := en_hold_bounded
  have c3 := @hold_Now_run
  have e3 := en_hold_Now
  refine Fun.of_model (X := fun r => vB r) (O := fun r => []) Tryd.func23 rfl (Nat.le_of_ble_eq_true (by kernel_rfl)) hm ?_
  simp only [Tryd.ntmps23, Tryd.results23, argsO]
  unfold hold_Gone
  clear hm
  exact walk

theorem en_table_sorted_1 : enters Tryd.prog 51 = true := by kernel_rfl
theorem table_sorted_1_run {a0 : GAlert} {a1 : GAlert} {r : Int} (hm : table_sorted_1 a0 a1 = some r) : Fun Tryd.prog 51 [(ag cGAlert) a0, (ag cGAlert) a1] (vI r) [] := by
  have c1 := @label_Compare_run
  have e1 := en_label_Compare
  refine Fun.of_model (X := fun r => vI r) (O := fun r => []) Tryd.func51 rfl (Nat.le_of_ble_eq_true (by kernel_rfl)) hm ?_
  simp only [Tryd.ntmps51, Tryd.results51, argsO]
  unfold table_sorted_1
  clear hm
  exact walk

theorem en_table_sorted_o : enters Tryd.prog 24 = true := by kernel_rfl
theorem table_sorted_o_run {a0 : (List (Str × GAlert))} {r : (List GAlert)} (hm : table_sorted_o a0 = some r) : FunO Tryd.prog 24 [.map 0] [.map (mp kS (ag cGAlert) a0)] ((sl cGAlert) r) [.map (mp kS (ag cGAlert) a0)] := by
  have c1 := @table_sorted_1_run
  have e1 := en_table_sorted_1
  have s1 := sortCon_50_51
  have so1 := sortCon0_50_51
  have se1 := sortEn_50
  have j1 := @cGAlert_inj
  refine FunO.of_model (oin := [.map (mp kS (ag cGAlert) a0)]) (X := fun r => (sl cGAlert) r) (O := fun r => [.map (mp kS (ag cGAlert) a0)]) Tryd.func24 rfl (Nat.le_of_ble_eq_true (by kernel_rfl)) hm (n0 := 1) rfl ?_
  simp only [Tryd.ntmps24, Tryd.results24, argsO]
  unfold table_sorted_o
  clear hm
  exact walk

theorem en_table_Step : enters Tryd.prog 8 = true := by kernel_rfl
theorem table_Step_run {a0 : GTable} {a1 : (List GFound)} {a2 : Int} {a3 : Int} {a4 : Int} {r : GTable} (hm : table_Step a0 a1 a2 a3 a4 = some r) : Fun Tryd.prog 8 [(ag cGTable) a0, (sl cGFound) a1, vI a2, vI a3, vI a4] ((ag cGTable) r) [] := by
  have c1 := @table_sorted_o_run
  have e1 := en_table_sorted_o
  have c2 := @table_counted_run
  have e2 := en_table_counted
  have c3 := @table_distinct_run
  have e3 := en_table_distinct
  have c4 := @table_key_run
  have e4 := en_table_key
  have c5 := @hold_Step_run
  have e5 := en_hold_Step
  have c6 := @hold_Gone_run
  have e6 := en_hold_Gone
  have z1 := zv_41
  have z2 := zv_62
  refine Fun.of_model (X := fun r => (ag cGTable) r) (O := fun r => []) Tryd.func8 rfl (Nat.le_of_ble_eq_true (by kernel_rfl)) hm ?_
  simp only [Tryd.ntmps8, Tryd.results8, argsO]
  unfold table_Step
  clear hm
  exact walk

theorem en_strings_Compare : enters Tryd.prog 37 = true := by kernel_rfl
theorem strings_Compare_run {a0 : Str} {a1 : Str} {r : Int} (hm : strings_Compare a0 a1 = some r) : Fun Tryd.prog 37 [vS a0, vS a1] (vI r) [] := by
  have c1 := @bytealg_CompareString_run
  have e1 := (by kernel_rfl : enters Tryd.prog 61 = true)
  refine Fun.of_model (X := fun r => vI r) (O := fun r => []) Tryd.func37 rfl (Nat.le_of_ble_eq_true (by kernel_rfl)) hm ?_
  simp only [Tryd.ntmps37, Tryd.results37, argsO]
  unfold strings_Compare
  clear hm
  exact walk

theorem en_snap_compare : enters Tryd.prog 15 = true := by kernel_rfl
theorem snap_compare_run {a0 : GKey} {a1 : GKey} {r : Int} (hm : snap_compare a0 a1 = some r) : Fun Tryd.prog 15 [(ag cGKey) a0, (ag cGKey) a1] (vI r) [] := by
  have c1 := @cmp_Or_int_run
  have e1 := en_cmp_Or_int
  have c2 := @strings_Compare_run
  have e2 := en_strings_Compare
  refine Fun.of_model (X := fun r => vI r) (O := fun r => []) Tryd.func15 rfl (Nat.le_of_ble_eq_true (by kernel_rfl)) hm ?_
  simp only [Tryd.ntmps15, Tryd.results15, argsO]
  unfold snap_compare
  clear hm
  exact walk

theorem en_snap_Sane : enters Tryd.prog 6 = true := by kernel_rfl
theorem snap_Sane_run {a0 : (List GSaved)} {r : Bool} (hm : snap_Sane a0 = some r) : Fun Tryd.prog 6 [(sl cGSaved) a0] (vB r) [] := by
  have c1 := @label_Name_run
  have e1 := en_label_Name
  have c2 := @table_Sane_run
  have e2 := en_table_Sane
  have c3 := @snap_compare_run
  have e3 := en_snap_compare
  refine Fun.of_model (X := fun r => vB r) (O := fun r => []) Tryd.func6 rfl (Nat.le_of_ble_eq_true (by kernel_rfl)) hm ?_
  simp only [Tryd.ntmps6, Tryd.results6, argsO]
  unfold snap_Sane
  clear hm
  exact walk

theorem en_slices_Clone_byte_byte : enters Tryd.prog 39 = true := by kernel_rfl
theorem slices_Clone_byte_byte_run {a0 : (List Int)} {r : (List Int)} (hm : slices_Clone_byte_byte a0 = some r) : Fun Tryd.prog 39 [(sl (cK .u8)) a0] (so 0 (cK .u8) r) [tk r.length 1 5] := by
  refine Fun.of_model (X := fun r => so 0 (cK .u8) r) (O := fun r => [tk r.length 1 5]) Tryd.func39 rfl (Nat.le_of_ble_eq_true (by kernel_rfl)) hm ?_
  simp only [Tryd.ntmps39, Tryd.results39, argsO]
  unfold slices_Clone_byte_byte
  clear hm
  exact walk

theorem en_codec_addUint_o : enters Tryd.prog 38 = true := by kernel_rfl
theorem codec_addUint_o_run {a0 : Int} {a1 : (List Int)} {a2 : Bool} {r : (List Int)} (hm : codec_addUint_o a0 a1 a2 = some r) : FunO Tryd.prog 38 [so 0 (cK .u8) a1, vI a0] [.tok a1.length 1 5 a2] (so 0 (cK .u8) r) [.tok r.length 1 5 a2] := by
  refine FunO.of_model (oin := [.tok a1.length 1 5 a2]) (X := fun r => so 0 (cK .u8) r) (O := fun r => [.tok r.length 1 5 a2]) Tryd.func38 rfl (Nat.le_of_ble_eq_true (by kernel_rfl)) hm (n0 := 1) rfl ?_
  simp only [Tryd.ntmps38, Tryd.results38, argsO]
  unfold codec_addUint_o
  clear hm
  exact walk

theorem en_codec_PutUint : enters Tryd.prog 16 = true := by kernel_rfl
theorem codec_PutUint_run {a0 : (List Int)} {a1 : Int} {r : (List Int)} (hm : codec_PutUint a0 a1 = some r) : Fun Tryd.prog 16 [(sl (cK .u8)) a0, vI a1] (so 0 (cK .u8) r) [tk r.length 1 5] := by
  have c1 := @codec_addUint_o_run
  have e1 := en_codec_addUint_o
  have c2 := @slices_Clone_byte_byte_run
  have e2 := en_slices_Clone_byte_byte
  refine Fun.of_model (X := fun r => so 0 (cK .u8) r) (O := fun r => [tk r.length 1 5]) Tryd.func16 rfl (Nat.le_of_ble_eq_true (by kernel_rfl)) hm ?_
  simp only [Tryd.ntmps16, Tryd.results16, argsO]
  unfold codec_PutUint
  clear hm
  exact walk

theorem en_codec_addText_o : enters Tryd.prog 40 = true := by kernel_rfl
theorem codec_addText_o_run {a0 : Str} {a1 : (List Int)} {a2 : Bool} {r : (List Int)} (hm : codec_addText_o a0 a1 a2 = some r) : FunO Tryd.prog 40 [so 0 (cK .u8) a1, vS a0] [.tok a1.length 1 5 a2] (so 0 (cK .u8) r) [.tok r.length 1 5 a2] := by
  have c1 := @codec_addUint_o_run
  have e1 := en_codec_addUint_o
  refine FunO.of_model (oin := [.tok a1.length 1 5 a2]) (X := fun r => so 0 (cK .u8) r) (O := fun r => [.tok r.length 1 5 a2]) Tryd.func40 rfl (Nat.le_of_ble_eq_true (by kernel_rfl)) hm (n0 := 1) rfl ?_
  simp only [Tryd.ntmps40, Tryd.results40, argsO]
  unfold codec_addText_o
  clear hm
  exact walk

end Go.Proofs.YtoekflobllmeeaaDoor.AM
