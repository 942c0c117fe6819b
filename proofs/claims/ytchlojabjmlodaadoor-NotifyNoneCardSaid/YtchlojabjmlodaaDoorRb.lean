/- A part of the proof: Ru1. -/
import Derived.Test.YtchlojabjmlodaaDoorGo
import Derived.Test.YtchlojabjmlodaaDoorRa
set_option linter.all false
/- The functions run as their models. -/
namespace Go.Proofs.YtchlojabjmlodaaDoor.AM
open Go Go.Proofs
set_option maxRecDepth 20000
set_option maxHeartbeats 4000000

theorem en_table_counted : enters Tryd.prog 22 = true := by kernel_rfl
theorem table_counted_run {a0 : GTable} {r : GTable} (hm : table_counted a0 = some r) : Fun Tryd.prog 22 [(ag cGTable) a0] ((ag cGTable) r) [] := by
  have c1 := @table_Sane_run
  have e1 := en_table_Sane
  refine Fun.of_model (X := fun r => (ag cGTable) r) (O := fun r => []) Tryd.func22 rfl (Nat.le_of_ble_eq_true (by kernel_rfl)) hm ?_
  simp only [Tryd.ntmps22, Tryd.results22, argsO]
  unfold table_counted
  clear hm
  exact walk

theorem en_strconv_small : enters Tryd.prog 85 = true := by kernel_rfl
theorem strconv_small_run {a0 : Int} {r : Str} (hm : strconv_small a0 = some r) : Fun Tryd.prog 85 [vI a0] (vS r) [] := by
  refine Fun.of_model (X := fun r => vS r) (O := fun r => []) Tryd.func85 rfl (Nat.le_of_ble_eq_true (by kernel_rfl)) hm ?_
  simp only [Tryd.ntmps85, Tryd.results85, argsO]
  unfold strconv_small
  clear hm
  exact walk

theorem en_strconv_FormatInt : enters Tryd.prog 70 = true := by kernel_rfl
theorem strconv_FormatInt_run {a0 : Int} {a1 : Int} {r : Str} (hm : strconv_FormatInt a0 a1 = some r) : Fun Tryd.prog 70 [vI a0, vI a1] (vS r) [] := by
  have c1 := @strconv_small_run
  have e1 := en_strconv_small
  refine Fun.of_model (X := fun r => vS r) (O := fun r => []) Tryd.func70 rfl (Nat.le_of_ble_eq_true (by kernel_rfl)) hm ?_
  simp only [Tryd.ntmps70, Tryd.results70, argsO]
  unfold strconv_FormatInt
  clear hm
  exact walk

theorem en_strconv_Itoa : enters Tryd.prog 55 = true := by kernel_rfl
theorem strconv_Itoa_run {a0 : Int} {r : Str} (hm : strconv_Itoa a0 = some r) : Fun Tryd.prog 55 [vI a0] (vS r) [] := by
  have c1 := @strconv_FormatInt_run
  have e1 := en_strconv_FormatInt
  refine Fun.of_model (X := fun r => vS r) (O := fun r => []) Tryd.func55 rfl (Nat.le_of_ble_eq_true (by kernel_rfl)) hm ?_
  simp only [Tryd.ntmps55, Tryd.results55, argsO]
  unfold strconv_Itoa
  clear hm
  exact walk

theorem en_strconv_Itoa1 : enters Tryd.prog 41 = true := by kernel_rfl
theorem strconv_Itoa1_run {a0 : Int} {r : Str} (hm : strconv_Itoa1 a0 = some r) : Fun Tryd.prog 41 [vI a0] (vS r) [] := by
  have c1 := @strconv_Itoa_run
  have e1 := en_strconv_Itoa
  refine Fun.of_model (X := fun r => vS r) (O := fun r => []) Tryd.func41 rfl (Nat.le_of_ble_eq_true (by kernel_rfl)) hm ?_
  simp only [Tryd.ntmps41, Tryd.results41, argsO]
  unfold strconv_Itoa1
  clear hm
  exact walk

theorem en_strings_Builder_WriteString_o : enters Tryd.prog 40 = true := by kernel_rfl
theorem strings_Builder_WriteString_o_run {a0 : Str} {a1 : (List Int)} {r : Int × Unit × (List Int)} (hm : strings_Builder_WriteString_o a0 a1 = some r) : FunO Tryd.prog 40 [.ptr 0 0, vS a0] [.bld 96 (so 1 (cK .u8) a1), tk a1.length 1 5] (.tup [vI r.1, vNI r.2.1]) [.bld 96 (so 1 (cK .u8) r.2.2), tk r.2.2.length 1 5] := by
  have c1 := @bldCheck_run
  have e1 := (by kernel_rfl : enters Tryd.prog 54 = true)
  refine FunO.of_model (oin := [.bld 96 (so 1 (cK .u8) a1), tk a1.length 1 5]) (X := fun r => .tup [vI r.1, vNI r.2.1]) (O := fun r => [.bld 96 (so 1 (cK .u8) r.2.2), tk r.2.2.length 1 5]) Tryd.func40 rfl (Nat.le_of_ble_eq_true (by kernel_rfl)) hm (n0 := 2) rfl ?_
  simp only [Tryd.ntmps40, Tryd.results40, argsO]
  unfold strings_Builder_WriteString_o
  clear hm
  exact walk

theorem en_strings_Builder_WriteByte_o : enters Tryd.prog 42 = true := by kernel_rfl
theorem strings_Builder_WriteByte_o_run {a0 : Int} {a1 : (List Int)} {r : Unit × (List Int)} (hm : strings_Builder_WriteByte_o a0 a1 = some r) : FunO Tryd.prog 42 [.ptr 0 0, vK .u8 a0] [.bld 96 (so 1 (cK .u8) a1), tk a1.length 1 5] (vNI r.1) [.bld 96 (so 1 (cK .u8) r.2), tk r.2.length 1 5] := by
  have c1 := @bldCheck_run
  have e1 := (by kernel_rfl : enters Tryd.prog 54 = true)
  refine FunO.of_model (oin := [.bld 96 (so 1 (cK .u8) a1), tk a1.length 1 5]) (X := fun r => vNI r.1) (O := fun r => [.bld 96 (so 1 (cK .u8) r.2), tk r.2.length 1 5]) Tryd.func42 rfl (Nat.le_of_ble_eq_true (by kernel_rfl)) hm (n0 := 2) rfl ?_
  simp only [Tryd.ntmps42, Tryd.results42, argsO]
  unfold strings_Builder_WriteByte_o
  clear hm
  exact walk

theorem en_table_key : enters Tryd.prog 24 = true := by kernel_rfl
theorem table_key_run {a0 : (List GPair)} {r : Str} (hm : table_key a0 = some r) : Fun Tryd.prog 24 [(sl cGPair) a0] (vS r) [] := by
  have c1 := @strings_Builder_WriteString_o_run
  have e1 := en_strings_Builder_WriteString_o
  have c2 := @strings_Builder_WriteByte_o_run
  have e2 := en_strings_Builder_WriteByte_o
  have c3 := @bldStr_run
  have e3 := (by kernel_rfl : enters Tryd.prog 43 = true)
  have c4 := @strconv_Itoa1_run
  have e4 := en_strconv_Itoa1
  refine Fun.of_model (X := fun r => vS r) (O := fun r => []) Tryd.func24 rfl (Nat.le_of_ble_eq_true (by kernel_rfl)) hm ?_
  simp only [Tryd.ntmps24, Tryd.results24, argsO]
  unfold table_key
  clear hm
  exact walk

theorem en_table_distinct : enters Tryd.prog 23 = true := by kernel_rfl
theorem table_distinct_run {a0 : (List GFound)} {r : (List GFound) × (List (Str × GFound))} (hm : table_distinct a0 = some r) : Fun Tryd.prog 23 [(sl cGFound) a0] (.tup [(sl cGFound) r.1, .map 0]) [.map (mp kS (ag cGFound) r.2)] := by
  have c1 := @label_Sane_run
  have e1 := en_label_Sane
  have c2 := @table_key_run
  have e2 := en_table_key
  have z1 := zv_42
  refine Fun.of_model (X := fun r => .tup [(sl cGFound) r.1, .map 0]) (O := fun r => [.map (mp kS (ag cGFound) r.2)]) Tryd.func23 rfl (Nat.le_of_ble_eq_true (by kernel_rfl)) hm ?_
  simp only [Tryd.ntmps23, Tryd.results23, argsO]
  unfold table_distinct
  clear hm
  exact walk

theorem en_hold_counted : enters Tryd.prog 44 = true := by kernel_rfl
theorem hold_counted_run {a0 : GHold} {r : GHold} (hm : hold_counted a0 = some r) : Fun Tryd.prog 44 [(ag cGHold) a0] ((ag cGHold) r) [] := by
  have c1 := @hold_Sane_run
  have e1 := en_hold_Sane
  refine Fun.of_model (X := fun r => (ag cGHold) r) (O := fun r => []) Tryd.func44 rfl (Nat.le_of_ble_eq_true (by kernel_rfl)) hm ?_
  simp only [Tryd.ntmps44, Tryd.results44, argsO]
  unfold hold_counted
  clear hm
  exact walk

theorem en_hold_bounded : enters Tryd.prog 45 = true := by kernel_rfl
theorem hold_bounded_run {a0 : (List Int)} {r : (List Int)} (hm : hold_bounded a0 = some r) : Fun Tryd.prog 45 [(sl cI) a0] ((sl cI) r) [] := by
  refine Fun.of_model (X := fun r => (sl cI) r) (O := fun r => []) Tryd.func45 rfl (Nat.le_of_ble_eq_true (by kernel_rfl)) hm ?_
  simp only [Tryd.ntmps45, Tryd.results45, argsO]
  unfold hold_bounded
  clear hm
  exact walk

theorem en_hold_Now : enters Tryd.prog 46 = true := by kernel_rfl
theorem hold_Now_run {a0 : GHold} {a1 : Int} {a2 : Int} {r : Int} (hm : hold_Now a0 a1 a2 = some r) : Fun Tryd.prog 46 [(ag cGHold) a0, vI a1, vI a2] (vI r) [] := by
  have c1 := @hold_counted_run
  have e1 := en_hold_counted
  have c2 := @hold_bounded_run
  have e2 := en_hold_bounded
  refine Fun.of_model (X := fun r => vI r) (O := fun r => []) Tryd.func46 rfl (Nat.le_of_ble_eq_true (by kernel_rfl)) hm ?_
  simp only [Tryd.ntmps46, Tryd.results46, argsO]
  unfold hold_Now
  clear hm
  exact walk

end Go.Proofs.YtchlojabjmlodaaDoor.AM
