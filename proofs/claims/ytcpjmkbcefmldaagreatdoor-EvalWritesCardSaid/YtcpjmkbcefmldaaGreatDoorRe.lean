/- A part of the proof: Ru4. -/
import Derived.Test.YtcpjmkbcefmldaaGreatDoorGo
import Derived.Test.YtcpjmkbcefmldaaGreatDoorRa
import Derived.Test.YtcpjmkbcefmldaaGreatDoorRd
set_option linter.all false
/- The functions run as their models. -/
namespace Go.Proofs.YtcpjmkbcefmldaaGreatDoor.AM
open Go Go.Proofs
set_option maxRecDepth 20000
set_option maxHeartbeats 4000000

theorem en_table_counted : enters Tryz.prog 61 = true := by kernel_rfl
theorem table_counted_run {a0 : GTable} {r : GTable} (hm : table_counted a0 = some r) : Fun Tryz.prog 61 [(ag cGTable) a0] ((ag cGTable) r) [] := by
  have c1 := @table_Sane_run
  have e1 := en_table_Sane
  refine Fun.of_model (X := fun r => (ag cGTable) r) (O := fun r => []) Tryz.func61 rfl (Nat.le_of_ble_eq_true (by kernel_rfl)) hm ?_
  simp only [Tryz.ntmps61, Tryz.results61, argsO]
  unfold table_counted
  clear hm
  exact walk

theorem en_strconv_small : enters Tryz.prog 133 = true := by kernel_rfl
theorem strconv_small_run {a0 : Int} {r : Str} (hm : strconv_small a0 = some r) : Fun Tryz.prog 133 [vI a0] (vS r) [] := by
  refine Fun.of_model (X := fun r => vS r) (O := fun r => []) Tryz.func133 rfl (Nat.le_of_ble_eq_true (by kernel_rfl)) hm ?_
  simp only [Tryz.ntmps133, Tryz.results133, argsO]
  unfold strconv_small
  clear hm
  exact walk

theorem en_strconv_FormatInt : enters Tryz.prog 123 = true := by kernel_rfl
theorem strconv_FormatInt_run {a0 : Int} {a1 : Int} {r : Str} (hm : strconv_FormatInt a0 a1 = some r) : Fun Tryz.prog 123 [vI a0, vI a1] (vS r) [] := by
  have c1 := @strconv_small_run
  have e1 := en_strconv_small
  refine Fun.of_model (X := fun r => vS r) (O := fun r => []) Tryz.func123 rfl (Nat.le_of_ble_eq_true (by kernel_rfl)) hm ?_
  simp only [Tryz.ntmps123, Tryz.results123, argsO]
  unfold strconv_FormatInt
  clear hm
  exact walk

theorem en_strconv_Itoa : enters Tryz.prog 114 = true := by kernel_rfl
theorem strconv_Itoa_run {a0 : Int} {r : Str} (hm : strconv_Itoa a0 = some r) : Fun Tryz.prog 114 [vI a0] (vS r) [] := by
  have c1 := @strconv_FormatInt_run
  have e1 := en_strconv_FormatInt
  refine Fun.of_model (X := fun r => vS r) (O := fun r => []) Tryz.func114 rfl (Nat.le_of_ble_eq_true (by kernel_rfl)) hm ?_
  simp only [Tryz.ntmps114, Tryz.results114, argsO]
  unfold strconv_Itoa
  clear hm
  exact walk

theorem en_strconv_Itoa1 : enters Tryz.prog 93 = true := by kernel_rfl
theorem strconv_Itoa1_run {a0 : Int} {r : Str} (hm : strconv_Itoa1 a0 = some r) : Fun Tryz.prog 93 [vI a0] (vS r) [] := by
  have c1 := @strconv_Itoa_run
  have e1 := en_strconv_Itoa
  refine Fun.of_model (X := fun r => vS r) (O := fun r => []) Tryz.func93 rfl (Nat.le_of_ble_eq_true (by kernel_rfl)) hm ?_
  simp only [Tryz.ntmps93, Tryz.results93, argsO]
  unfold strconv_Itoa1
  clear hm
  exact walk

theorem en_strings_Builder_WriteString_o : enters Tryz.prog 92 = true := by kernel_rfl
theorem strings_Builder_WriteString_o_run {a0 : Str} {a1 : (List Int)} {r : Int × Unit × (List Int)} (hm : strings_Builder_WriteString_o a0 a1 = some r) : FunO Tryz.prog 92 [.ptr 0 0, vS a0] [.bld 153 (so 1 (cK .u8) a1), tk a1.length 1 5] (.tup [vI r.1, vNI r.2.1]) [.bld 153 (so 1 (cK .u8) r.2.2), tk r.2.2.length 1 5] := by
  have c1 := @bldCheck_run
  have e1 := (by kernel_rfl : enters Tryz.prog 113 = true)
  refine FunO.of_model (oin := [.bld 153 (so 1 (cK .u8) a1), tk a1.length 1 5]) (X := fun r => .tup [vI r.1, vNI r.2.1]) (O := fun r => [.bld 153 (so 1 (cK .u8) r.2.2), tk r.2.2.length 1 5]) Tryz.func92 rfl (Nat.le_of_ble_eq_true (by kernel_rfl)) hm (n0 := 2) rfl ?_
  simp only [Tryz.ntmps92, Tryz.results92, argsO]
  unfold strings_Builder_WriteString_o
  clear hm
  exact walk

theorem en_strings_Builder_WriteByte_o : enters Tryz.prog 94 = true := by kernel_rfl
theorem strings_Builder_WriteByte_o_run {a0 : Int} {a1 : (List Int)} {r : Unit × (List Int)} (hm : strings_Builder_WriteByte_o a0 a1 = some r) : FunO Tryz.prog 94 [.ptr 0 0, vK .u8 a0] [.bld 153 (so 1 (cK .u8) a1), tk a1.length 1 5] (vNI r.1) [.bld 153 (so 1 (cK .u8) r.2), tk r.2.length 1 5] := by
  have c1 := @bldCheck_run
  have e1 := (by kernel_rfl : enters Tryz.prog 113 = true)
  refine FunO.of_model (oin := [.bld 153 (so 1 (cK .u8) a1), tk a1.length 1 5]) (X := fun r => vNI r.1) (O := fun r => [.bld 153 (so 1 (cK .u8) r.2), tk r.2.length 1 5]) Tryz.func94 rfl (Nat.le_of_ble_eq_true (by kernel_rfl)) hm (n0 := 2) rfl ?_
  simp only [Tryz.ntmps94, Tryz.results94, argsO]
  unfold strings_Builder_WriteByte_o
  clear hm
  exact walk

theorem en_table_key : enters Tryz.prog 78 = true := by kernel_rfl
theorem table_key_run {a0 : (List GPair)} {r : Str} (hm : table_key a0 = some r) : Fun Tryz.prog 78 [(sl cGPair) a0] (vS r) [] := by
  have c1 := @strings_Builder_WriteString_o_run
  have e1 := en_strings_Builder_WriteString_o
  have c2 := @strings_Builder_WriteByte_o_run
  have e2 := en_strings_Builder_WriteByte_o
  have c3 := @bldStr_run
  have e3 := (by kernel_rfl : enters Tryz.prog 95 = true)
  have c4 := @strconv_Itoa1_run
  have e4 := en_strconv_Itoa1
  refine Fun.of_model (X := fun r => vS r) (O := fun r => []) Tryz.func78 rfl (Nat.le_of_ble_eq_true (by kernel_rfl)) hm ?_
  simp only [Tryz.ntmps78, Tryz.results78, argsO]
  unfold table_key
  clear hm
  exact walk

theorem en_table_distinct : enters Tryz.prog 77 = true := by kernel_rfl
theorem table_distinct_run {a0 : (List GFound)} {r : (List GFound) × (List (Str × GFound))} (hm : table_distinct a0 = some r) : Fun Tryz.prog 77 [(sl cGFound) a0] (.tup [(sl cGFound) r.1, .map 0]) [.map (mp kS (ag cGFound) r.2)] := by
  have c1 := @label_Sane_run
  have e1 := en_label_Sane
  have c2 := @table_key_run
  have e2 := en_table_key
  have z1 := zv_41
  refine Fun.of_model (X := fun r => .tup [(sl cGFound) r.1, .map 0]) (O := fun r => [.map (mp kS (ag cGFound) r.2)]) Tryz.func77 rfl (Nat.le_of_ble_eq_true (by kernel_rfl)) hm ?_
  simp only [Tryz.ntmps77, Tryz.results77, argsO]
  unfold table_distinct
  clear hm
  exact walk

theorem en_hold_counted : enters Tryz.prog 96 = true := by kernel_rfl
theorem hold_counted_run {a0 : GHold} {r : GHold} (hm : hold_counted a0 = some r) : Fun Tryz.prog 96 [(ag cGHold) a0] ((ag cGHold) r) [] := by
  have c1 := @hold_Sane_run
  have e1 := en_hold_Sane
  refine Fun.of_model (X := fun r => (ag cGHold) r) (O := fun r => []) Tryz.func96 rfl (Nat.le_of_ble_eq_true (by kernel_rfl)) hm ?_
  simp only [Tryz.ntmps96, Tryz.results96, argsO]
  unfold hold_counted
  clear hm
  exact walk

theorem en_hold_bounded : enters Tryz.prog 97 = true := by kernel_rfl
theorem hold_bounded_run {a0 : (List Int)} {r : (List Int)} (hm : hold_bounded a0 = some r) : Fun Tryz.prog 97 [(sl cI) a0] ((sl cI) r) [] := by
  refine Fun.of_model (X := fun r => (sl cI) r) (O := fun r => []) Tryz.func97 rfl (Nat.le_of_ble_eq_true (by kernel_rfl)) hm ?_
  simp only [Tryz.ntmps97, Tryz.results97, argsO]
  unfold hold_bounded
  clear hm
  exact walk

theorem en_hold_Now : enters Tryz.prog 98 = true := by kernel_rfl
theorem hold_Now_run {a0 : GHold} {a1 : Int} {a2 : Int} {r : Int} (hm : hold_Now a0 a1 a2 = some r) : Fun Tryz.prog 98 [(ag cGHold) a0, vI a1, vI a2] (vI r) [] := by
  have c1 := @hold_counted_run
  have e1 := en_hold_counted
  have c2 := @hold_bounded_run
  have e2 := en_hold_bounded
  refine Fun.of_model (X := fun r => vI r) (O := fun r => []) Tryz.func98 rfl (Nat.le_of_ble_eq_true (by kernel_rfl)) hm ?_
  simp only [Tryz.ntmps98, Tryz.results98, argsO]
  unfold hold_Now
  clear hm
  exact walk

end Go.Proofs.YtcpjmkbcefmldaaGreatDoor.AM
