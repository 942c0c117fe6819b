/- A part of the proof: Ru3. -/
import Derived.Test.YtoekflobllmeeaaGreatDoorGo
import Derived.Test.YtoekflobllmeeaaGreatDoorRa
import Derived.Test.YtoekflobllmeeaaGreatDoorRc
set_option linter.all false
/- The functions run as their models. -/
namespace Go.Proofs.YtoekflobllmeeaaGreatDoor.AM
open Go Go.Proofs
set_option maxRecDepth 20000
set_option maxHeartbeats 4000000

theorem en_codec_PutText : enters Tryz.prog 33 = true := by kernel_rfl
theorem codec_PutText_run {a0 : (List Int)} {a1 : Str} {r : (List Int)} (hm : codec_PutText a0 a1 = some r) : Fun Tryz.prog 33 [(sl (cK .u8)) a0, vS a1] (so 0 (cK .u8) r) [tk r.length 1 5] := by
  have c1 := @codec_addText_o_run
  have e1 := en_codec_addText_o
  have c2 := @slices_Clone_byte_byte_run
  have e2 := en_slices_Clone_byte_byte
  refine Fun.of_model (X := fun r => so 0 (cK .u8) r) (O := fun r => [tk r.length 1 5]) Tryz.func33 rfl (Nat.le_of_ble_eq_true (by kernel_rfl)) hm ?_
  simp only [Tryz.ntmps33, Tryz.results33, argsO]
  unfold codec_PutText
  clear hm
  exact walk

theorem en_slices_Clip_byte_byte : enters Tryz.prog 95 = true := by kernel_rfl
theorem slices_Clip_byte_byte_run {a0 : (List Int)} {r : (List Int)} (hm : slices_Clip_byte_byte a0 = some r) : Fun Tryz.prog 95 [(sl (cK .u8)) a0] (so 0 (cK .u8) r) [.tok r.length 1 5 false] := by
  refine Fun.of_model (X := fun r => so 0 (cK .u8) r) (O := fun r => [.tok r.length 1 5 false]) Tryz.func95 rfl (Nat.le_of_ble_eq_true (by kernel_rfl)) hm ?_
  simp only [Tryz.ntmps95, Tryz.results95, argsO]
  unfold slices_Clip_byte_byte
  clear hm
  exact walk

theorem en_codec_PutLabels : enters Tryz.prog 68 = true := by kernel_rfl
theorem codec_PutLabels_run {a0 : (List Int)} {a1 : (List GPair)} {r : (List Int)} (hm : codec_PutLabels a0 a1 = some r) : Fun Tryz.prog 68 [(sl (cK .u8)) a0, (sl cGPair) a1] (so 0 (cK .u8) r) [.tok r.length 1 5 false] := by
  have c1 := @codec_addUint_o_run
  have e1 := en_codec_addUint_o
  have c2 := @codec_addText_o_run
  have e2 := en_codec_addText_o
  have c3 := @label_Sane_run
  have e3 := en_label_Sane
  have c4 := @slices_Clip_byte_byte_run
  have e4 := en_slices_Clip_byte_byte
  refine Fun.of_model (X := fun r => so 0 (cK .u8) r) (O := fun r => [.tok r.length 1 5 false]) Tryz.func68 rfl (Nat.le_of_ble_eq_true (by kernel_rfl)) hm ?_
  simp only [Tryz.ntmps68, Tryz.results68, argsO]
  unfold codec_PutLabels
  clear hm
  exact walk

theorem en_codec_PutInt : enters Tryz.prog 69 = true := by kernel_rfl
theorem codec_PutInt_run {a0 : (List Int)} {a1 : Int} {r : (List Int)} (hm : codec_PutInt a0 a1 = some r) : Fun Tryz.prog 69 [(sl (cK .u8)) a0, vI a1] (so 0 (cK .u8) r) [tk r.length 1 5] := by
  have c1 := @codec_PutUint_run
  have e1 := en_codec_PutUint
  have c2 := @slices_Clone_byte_byte_run
  have e2 := en_slices_Clone_byte_byte
  refine Fun.of_model (X := fun r => so 0 (cK .u8) r) (O := fun r => [tk r.length 1 5]) Tryz.func69 rfl (Nat.le_of_ble_eq_true (by kernel_rfl)) hm ?_
  simp only [Tryz.ntmps69, Tryz.results69, argsO]
  unfold codec_PutInt
  clear hm
  exact walk

theorem en_snap_putAlert : enters Tryz.prog 34 = true := by kernel_rfl
theorem snap_putAlert_run {a0 : (List Int)} {a1 : GAlert} {r : (List Int)} (hm : snap_putAlert a0 a1 = some r) : Fun Tryz.prog 34 [(sl (cK .u8)) a0, (ag cGAlert) a1] ((sl (cK .u8)) r) [] := by
  have c1 := @codec_PutUint_run
  have e1 := en_codec_PutUint
  have c2 := @codec_PutLabels_run
  have e2 := en_codec_PutLabels
  have c3 := @codec_PutInt_run
  have e3 := en_codec_PutInt
  refine Fun.of_model (X := fun r => (sl (cK .u8)) r) (O := fun r => []) Tryz.func34 rfl (Nat.le_of_ble_eq_true (by kernel_rfl)) hm ?_
  simp only [Tryz.ntmps34, Tryz.results34, argsO, ag, cGAlert, List.map, AV.ofD]
  unfold snap_putAlert
  clear hm
  exact walk

theorem en_snap_Put : enters Tryz.prog 14 = true := by kernel_rfl
theorem snap_Put_run {a0 : (List GSaved)} {r : (List Int)} (hm : snap_Put a0 = some r) : Fun Tryz.prog 14 [(sl cGSaved) a0] ((sl (cK .u8)) r) [] := by
  have c1 := @snap_Sane_run
  have e1 := en_snap_Sane
  have c2 := @codec_PutUint_run
  have e2 := en_codec_PutUint
  have c3 := @codec_PutText_run
  have e3 := en_codec_PutText
  have c4 := @snap_putAlert_run
  have e4 := en_snap_putAlert
  refine Fun.of_model (X := fun r => (sl (cK .u8)) r) (O := fun r => []) Tryz.func14 rfl (Nat.le_of_ble_eq_true (by kernel_rfl)) hm ?_
  simp only [Tryz.ntmps14, Tryz.results14, argsO]
  unfold snap_Put
  clear hm
  exact walk

theorem en_codec_GetUint : enters Tryz.prog 47 = true := by kernel_rfl
theorem codec_GetUint_run {a0 : (List Int)} {r : Int × (List Int) × Int} (hm : codec_GetUint a0 = some r) : Fun Tryz.prog 47 [(sl (cK .u8)) a0] (.tup [vI r.1, (sl (cK .u8)) r.2.1, vI r.2.2]) [] := by
  refine Fun.of_model (X := fun r => .tup [vI r.1, (sl (cK .u8)) r.2.1, vI r.2.2]) (O := fun r => []) Tryz.func47 rfl (Nat.le_of_ble_eq_true (by kernel_rfl)) hm ?_
  simp only [Tryz.ntmps47, Tryz.results47, argsO]
  unfold codec_GetUint
  clear hm
  exact walk

theorem en_snap_reader_fail_o : enters Tryz.prog 48 = true := by kernel_rfl
theorem snap_reader_fail_o_run {a0 : Int} {a1 : Gsnap_reader} {r : Gsnap_reader} (hm : snap_reader_fail_o a0 a1 = some r) : FunO Tryz.prog 48 [.ptr 0 0, vI a0] [.box [sl (cK .u8) a1.b, vI a1.e]] (.tup []) [.box [sl (cK .u8) r.b, vI r.e]] := by
  refine FunO.of_model (oin := [.box [sl (cK .u8) a1.b, vI a1.e]]) (X := fun r => .tup []) (O := fun r => [.box [sl (cK .u8) r.b, vI r.e]]) Tryz.func48 rfl (Nat.le_of_ble_eq_true (by kernel_rfl)) hm (n0 := 1) rfl ?_
  simp only [Tryz.ntmps48, Tryz.results48, argsO]
  unfold snap_reader_fail_o
  clear hm
  exact walk

theorem en_snap_read_int_o : enters Tryz.prog 46 = true := by kernel_rfl
theorem snap_read_int_o_run {a0 : Gsnap_reader} {r : Int × Gsnap_reader} (hm : snap_read_int_o a0 = some r) : FunO Tryz.prog 46 [.ptr 0 0, .fn 47 [] []] [.box [sl (cK .u8) a0.b, vI a0.e]] (vI r.1) [.box [sl (cK .u8) r.2.b, vI r.2.e]] := by
  have c1 := @snap_reader_fail_o_run
  have e1 := en_snap_reader_fail_o
  have c2 := @codec_GetUint_run
  have e2 := en_codec_GetUint
  refine FunO.of_model (oin := [.box [sl (cK .u8) a0.b, vI a0.e]]) (X := fun r => vI r.1) (O := fun r => [.box [sl (cK .u8) r.2.b, vI r.2.e]]) Tryz.func46 rfl (Nat.le_of_ble_eq_true (by kernel_rfl)) hm (n0 := 1) rfl ?_
  simp only [Tryz.ntmps46, Tryz.results46, argsO]
  unfold snap_read_int_o
  clear hm
  exact walk

theorem en_codec_GetText : enters Tryz.prog 50 = true := by kernel_rfl
theorem codec_GetText_run {a0 : (List Int)} {r : Str × (List Int) × Int} (hm : codec_GetText a0 = some r) : Fun Tryz.prog 50 [(sl (cK .u8)) a0] (.tup [vS r.1, (sl (cK .u8)) r.2.1, vI r.2.2]) [] := by
  have c1 := @codec_GetUint_run
  have e1 := en_codec_GetUint
  refine Fun.of_model (X := fun r => .tup [vS r.1, (sl (cK .u8)) r.2.1, vI r.2.2]) (O := fun r => []) Tryz.func50 rfl (Nat.le_of_ble_eq_true (by kernel_rfl)) hm ?_
  simp only [Tryz.ntmps50, Tryz.results50, argsO]
  unfold codec_GetText
  clear hm
  exact walk

theorem en_snap_read_string_o : enters Tryz.prog 49 = true := by kernel_rfl
theorem snap_read_string_o_run {a0 : Gsnap_reader} {r : Str × Gsnap_reader} (hm : snap_read_string_o a0 = some r) : FunO Tryz.prog 49 [.ptr 0 0, .fn 50 [] []] [.box [sl (cK .u8) a0.b, vI a0.e]] (vS r.1) [.box [sl (cK .u8) r.2.b, vI r.2.e]] := by
  have c1 := @snap_reader_fail_o_run
  have e1 := en_snap_reader_fail_o
  have c2 := @codec_GetText_run
  have e2 := en_codec_GetText
  refine FunO.of_model (oin := [.box [sl (cK .u8) a0.b, vI a0.e]]) (X := fun r => vS r.1) (O := fun r => [.box [sl (cK .u8) r.2.b, vI r.2.e]]) Tryz.func49 rfl (Nat.le_of_ble_eq_true (by kernel_rfl)) hm (n0 := 1) rfl ?_
  simp only [Tryz.ntmps49, Tryz.results49, argsO]
  unfold snap_read_string_o
  clear hm
  exact walk

theorem en_codec_got_int_o : enters Tryz.prog 101 = true := by kernel_rfl
theorem codec_got_int_o_run {a0 : Gcodec_reader} {r : Int × Gcodec_reader} (hm : codec_got_int_o a0 = some r) : FunO Tryz.prog 101 [.ptr 0 0, .fn 47 [] []] [.box [sl (cK .u8) a0.b, vI a0.e]] (vI r.1) [.box [sl (cK .u8) r.2.b, vI r.2.e]] := by
  have c1 := @codec_GetUint_run
  have e1 := en_codec_GetUint
  refine FunO.of_model (oin := [.box [sl (cK .u8) a0.b, vI a0.e]]) (X := fun r => vI r.1) (O := fun r => [.box [sl (cK .u8) r.2.b, vI r.2.e]]) Tryz.func101 rfl (Nat.le_of_ble_eq_true (by kernel_rfl)) hm (n0 := 1) rfl ?_
  simp only [Tryz.ntmps101, Tryz.results101, argsO]
  unfold codec_got_int_o
  clear hm
  exact walk

end Go.Proofs.YtoekflobllmeeaaGreatDoor.AM
