/- A part of the proof: Ru1. -/
import Derived.Test.YtchlojabjmlodaaGreatDoorGo
import Derived.Test.YtchlojabjmlodaaGreatDoorRa
set_option linter.all false
/- The functions run as their models. -/
namespace Go.Proofs.YtchlojabjmlodaaGreatDoor.AM
open Go Go.Proofs
set_option maxRecDepth 20000
set_option maxHeartbeats 4000000

theorem en_table_counted : enters Tryz.prog 36 = true := by kernel_rfl
theorem table_counted_run {a0 : GTable} {r : GTable} (hm : table_counted a0 = some r) : Fun Tryz.prog 36 [(ag cGTable) a0] ((ag cGTable) r) [] := by
  have c1 := @table_Sane_run
  have e1 := en_table_Sane
  refine Fun.of_model (X := fun r => (ag cGTable) r) (O := fun r => []) Tryz.func36 rfl (Nat.le_of_ble_eq_true (by kernel_rfl)) hm ?_
  simp only [Tryz.ntmps36, Tryz.results36, argsO]
  unfold table_counted
  clear hm
  exact walk

theorem en_strconv_small : enters Tryz.prog 97 = true := by kernel_rfl
theorem strconv_small_run {a0 : Int} {r : Str} (hm : strconv_small a0 = some r) : Fun Tryz.prog 97 [vI a0] (vS r) [] := by
  refine Fun.of_model (X := fun r => vS r) (O := fun r => []) Tryz.func97 rfl (Nat.le_of_ble_eq_true (by kernel_rfl)) hm ?_
  simp only [Tryz.ntmps97, Tryz.results97, argsO]
  unfold strconv_small
  clear hm
  exact walk

theorem en_strconv_FormatInt : enters Tryz.prog 86 = true := by kernel_rfl
theorem strconv_FormatInt_run {a0 : Int} {a1 : Int} {r : Str} (hm : strconv_FormatInt a0 a1 = some r) : Fun Tryz.prog 86 [vI a0, vI a1] (vS r) [] := by
  have c1 := @strconv_small_run
  have e1 := en_strconv_small
  refine Fun.of_model (X := fun r => vS r) (O := fun r => []) Tryz.func86 rfl (Nat.le_of_ble_eq_true (by kernel_rfl)) hm ?_
  simp only [Tryz.ntmps86, Tryz.results86, argsO]
  unfold strconv_FormatInt
  clear hm
  exact walk

theorem en_strconv_Itoa : enters Tryz.prog 76 = true := by kernel_rfl
theorem strconv_Itoa_run {a0 : Int} {r : Str} (hm : strconv_Itoa a0 = some r) : Fun Tryz.prog 76 [vI a0] (vS r) [] := by
  have c1 := @strconv_FormatInt_run
  have e1 := en_strconv_FormatInt
  refine Fun.of_model (X := fun r => vS r) (O := fun r => []) Tryz.func76 rfl (Nat.le_of_ble_eq_true (by kernel_rfl)) hm ?_
  simp only [Tryz.ntmps76, Tryz.results76, argsO]
  unfold strconv_Itoa
  clear hm
  exact walk

theorem en_strconv_Itoa1 : enters Tryz.prog 54 = true := by kernel_rfl
theorem strconv_Itoa1_run {a0 : Int} {r : Str} (hm : strconv_Itoa1 a0 = some r) : Fun Tryz.prog 54 [vI a0] (vS r) [] := by
  have c1 := @strconv_Itoa_run
  have e1 := en_strconv_Itoa
  refine Fun.of_model (X := fun r => vS r) (O := fun r => []) Tryz.func54 rfl (Nat.le_of_ble_eq_true (by kernel_rfl)) hm ?_
  simp only [Tryz.ntmps54, Tryz.results54, argsO]
  unfold strconv_Itoa1
  clear hm
  exact walk

theorem en_strings_Builder_WriteString_o : enters Tryz.prog 53 = true := by kernel_rfl
theorem strings_Builder_WriteString_o_run {a0 : Str} {a1 : (List Int)} {r : Int × Unit × (List Int)} (hm : strings_Builder_WriteString_o a0 a1 = some r) : FunO Tryz.prog 53 [.ptr 0 0, vS a0] [.bld 107 (so 1 (cK .u8) a1), tk a1.length 1 5] (.tup [vI r.1, vNI r.2.1]) [.bld 107 (so 1 (cK .u8) r.2.2), tk r.2.2.length 1 5] := by
  have c1 := @bldCheck_run
  have e1 := (by kernel_rfl : enters Tryz.prog 75 = true)
  refine FunO.of_model (oin := [.bld 107 (so 1 (cK .u8) a1), tk a1.length 1 5]) (X := fun r => .tup [vI r.1, vNI r.2.1]) (O := fun r => [.bld 107 (so 1 (cK .u8) r.2.2), tk r.2.2.length 1 5]) Tryz.func53 rfl (Nat.le_of_ble_eq_true (by kernel_rfl)) hm (n0 := 2) rfl ?_
  simp only [Tryz.ntmps53, Tryz.results53, argsO]
  unfold strings_Builder_WriteString_o
  clear hm
  exact walk

theorem en_strings_Builder_WriteByte_o : enters Tryz.prog 55 = true := by kernel_rfl
theorem strings_Builder_WriteByte_o_run {a0 : Int} {a1 : (List Int)} {r : Unit × (List Int)} (hm : strings_Builder_WriteByte_o a0 a1 = some r) : FunO Tryz.prog 55 [.ptr 0 0, vK .u8 a0] [.bld 107 (so 1 (cK .u8) a1), tk a1.length 1 5] (vNI r.1) [.bld 107 (so 1 (cK .u8) r.2), tk r.2.length 1 5] := by
  have c1 := @bldCheck_run
  have e1 := (by kernel_rfl : enters Tryz.prog 75 = true)
  refine FunO.of_model (oin := [.bld 107 (so 1 (cK .u8) a1), tk a1.length 1 5]) (X := fun r => vNI r.1) (O := fun r => [.bld 107 (so 1 (cK .u8) r.2), tk r.2.length 1 5]) Tryz.func55 rfl (Nat.le_of_ble_eq_true (by kernel_rfl)) hm (n0 := 2) rfl ?_
  simp only [Tryz.ntmps55, Tryz.results55, argsO]
  unfold strings_Builder_WriteByte_o
  clear hm
  exact walk

theorem en_table_key : enters Tryz.prog 38 = true := by kernel_rfl
theorem table_key_run {a0 : (List GPair)} {r : Str} (hm : table_key a0 = some r) : Fun Tryz.prog 38 [(sl cGPair) a0] (vS r) [] := by
  have c1 := @strings_Builder_WriteString_o_run
  have e1 := en_strings_Builder_WriteString_o
  have c2 := @strings_Builder_WriteByte_o_run
  have e2 := en_strings_Builder_WriteByte_o
  have c3 := @bldStr_run
  have e3 := (by kernel_rfl : enters Tryz.prog 56 = true)
  have c4 := @strconv_Itoa1_run
  have e4 := en_strconv_Itoa1
  refine Fun.of_model (X := fun r => vS r) (O := fun r => []) Tryz.func38 rfl (Nat.le_of_ble_eq_true (by kernel_rfl)) hm ?_
  simp only [Tryz.ntmps38, Tryz.results38, argsO]
  unfold table_key
  clear hm
  exact walk

theorem en_table_distinct : enters Tryz.prog 37 = true := by kernel_rfl
theorem table_distinct_run {a0 : (List GFound)} {r : (List GFound) × (List (Str × GFound))} (hm : table_distinct a0 = some r) : Fun Tryz.prog 37 [(sl cGFound) a0] (.tup [(sl cGFound) r.1, .map 0]) [.map (mp kS (ag cGFound) r.2)] := by
  have c1 := @label_Sane_run
  have e1 := en_label_Sane
  have c2 := @table_key_run
  have e2 := en_table_key
  have z1 := zv_56
  refine Fun.of_model (X := fun r => .tup [(sl cGFound) r.1, .map 0]) (O := fun r => [.map (mp kS (ag cGFound) r.2)]) Tryz.func37 rfl (Nat.le_of_ble_eq_true (by kernel_rfl)) hm ?_
  simp only [Tryz.ntmps37, Tryz.results37, argsO]
  unfold table_distinct
  clear hm
  exact walk

theorem en_hold_counted : enters Tryz.prog 57 = true := by kernel_rfl
theorem hold_counted_run {a0 : GHold} {r : GHold} (hm : hold_counted a0 = some r) : Fun Tryz.prog 57 [(ag cGHold) a0] ((ag cGHold) r) [] := by
  have c1 := @hold_Sane_run
  have e1 := en_hold_Sane
  refine Fun.of_model (X := fun r => (ag cGHold) r) (O := fun r => []) Tryz.func57 rfl (Nat.le_of_ble_eq_true (by kernel_rfl)) hm ?_
  simp only [Tryz.ntmps57, Tryz.results57, argsO]
  unfold hold_counted
  clear hm
  exact walk

theorem en_hold_bounded : enters Tryz.prog 58 = true := by kernel_rfl
theorem hold_bounded_run {a0 : (List Int)} {r : (List Int)} (hm : hold_bounded a0 = some r) : Fun Tryz.prog 58 [(sl cI) a0] ((sl cI) r) [] := by
  refine Fun.of_model (X := fun r => (sl cI) r) (O := fun r => []) Tryz.func58 rfl (Nat.le_of_ble_eq_true (by kernel_rfl)) hm ?_
  simp only [Tryz.ntmps58, Tryz.results58, argsO]
  unfold hold_bounded
  clear hm
  exact walk

theorem en_hold_Now : enters Tryz.prog 59 = true := by kernel_rfl
theorem hold_Now_run {a0 : GHold} {a1 : Int} {a2 : Int} {r : Int} (hm : hold_Now a0 a1 a2 = some r) : Fun Tryz.prog 59 [(ag cGHold) a0, vI a1, vI a2] (vI r) [] := by
  have c1 := @hold_counted_run
  have e1 := en_hold_counted
  have c2 := @hold_bounded_run
  have e2 := en_hold_bounded
  refine Fun.of_model (X := fun r => vI r) (O := fun r => []) Tryz.func59 rfl (Nat.le_of_ble_eq_true (by kernel_rfl)) hm ?_
  simp only [Tryz.ntmps59, Tryz.results59, argsO]
  unfold hold_Now
  clear hm
  exact walk

end Go.Proofs.YtchlojabjmlodaaGreatDoor.AM
