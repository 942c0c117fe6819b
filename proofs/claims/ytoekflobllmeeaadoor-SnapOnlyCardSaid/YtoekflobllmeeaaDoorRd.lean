/- A part of the proof: Ru3. -/
import Derived.Test.YtoekflobllmeeaaDoorGo
import Derived.Test.YtoekflobllmeeaaDoorRa
import Derived.Test.YtoekflobllmeeaaDoorRc
set_option linter.all false
/- The functions run as their models. -/
namespace Go.Proofs.YtoekflobllmeeaaDoor.AM
open Go Go.Proofs
set_option maxRecDepth 20000
set_option maxHeartbeats 4000000

theorem en_codec_PutText : enters Tryd.prog 17 = true := by kernel_rfl
theorem codec_PutText_run {a0 : (List Int)} {a1 : Str} {r : (List Int)} (hm : codec_PutText a0 a1 = some r) : Fun Tryd.prog 17 [(sl (cK .u8)) a0, vS a1] (so 0 (cK .u8) r) [tk r.length 1 5] := by
  have c1 := @codec_addText_o_run
  have e1 := en_codec_addText_o
  have c2 := @slices_Clone_byte_byte_run
  have e2 := en_slices_Clone_byte_byte
  refine Fun.of_model (X := fun r => so 0 (cK .u8) r) (O := fun r => [tk r.length 1 5]) Tryd.func17 rfl (Nat.le_of_ble_eq_true (by kernel_rfl)) hm ?_
  simp only [Tryd.ntmps17, Tryd.results17, argsO]
  unfold codec_PutText
  clear hm
  exact walk

theorem en_slices_Clip_byte_byte : enters Tryd.prog 62 = true := by kernel_rfl
theorem slices_Clip_byte_byte_run {a0 : (List Int)} {r : (List Int)} (hm : slices_Clip_byte_byte a0 = some r) : Fun Tryd.prog 62 [(sl (cK .u8)) a0] (so 0 (cK .u8) r) [.tok r.length 1 5 false] := by
  refine Fun.of_model (X := fun r => so 0 (cK .u8) r) (O := fun r => [.tok r.length 1 5 false]) Tryd.func62 rfl (Nat.le_of_ble_eq_true (by kernel_rfl)) hm ?_
  simp only [Tryd.ntmps62, Tryd.results62, argsO]
  unfold slices_Clip_byte_byte
  clear hm
  exact walk

theorem en_codec_PutLabels : enters Tryd.prog 41 = true := by kernel_rfl
theorem codec_PutLabels_run {a0 : (List Int)} {a1 : (List GPair)} {r : (List Int)} (hm : codec_PutLabels a0 a1 = some r) : Fun Tryd.prog 41 [(sl (cK .u8)) a0, (sl cGPair) a1] (so 0 (cK .u8) r) [.tok r.length 1 5 false] := by
  have c1 := @codec_addUint_o_run
  have e1 := en_codec_addUint_o
  have c2 := @codec_addText_o_run
  have e2 := en_codec_addText_o
  have c3 := @label_Sane_run
  have e3 := en_label_Sane
  have c4 := @slices_Clip_byte_byte_run
  have e4 := en_slices_Clip_byte_byte
  refine Fun.of_model (X := fun r => so 0 (cK .u8) r) (O := fun r => [.tok r.length 1 5 false]) Tryd.func41 rfl (Nat.le_of_ble_eq_true (by kernel_rfl)) hm ?_
  simp only [Tryd.ntmps41, Tryd.results41, argsO]
  unfold codec_PutLabels
  clear hm
  exact walk

theorem en_codec_PutInt : enters Tryd.prog 42 = true := by kernel_rfl
theorem codec_PutInt_run {a0 : (List Int)} {a1 : Int} {r : (List Int)} (hm : codec_PutInt a0 a1 = some r) : Fun Tryd.prog 42 [(sl (cK .u8)) a0, vI a1] (so 0 (cK .u8) r) [tk r.length 1 5] := by
  have c1 := @codec_PutUint_run
  have e1 := en_codec_PutUint
  have c2 := @slices_Clone_byte_byte_run
  have e2 := en_slices_Clone_byte_byte
  refine Fun.of_model (X := fun r => so 0 (cK .u8) r) (O := fun r => [tk r.length 1 5]) Tryd.func42 rfl (Nat.le_of_ble_eq_true (by kernel_rfl)) hm ?_
  simp only [Tryd.ntmps42, Tryd.results42, argsO]
  unfold codec_PutInt
  clear hm
  exact walk

theorem en_snap_putAlert : enters Tryd.prog 18 = true := by kernel_rfl
theorem snap_putAlert_run {a0 : (List Int)} {a1 : GAlert} {r : (List Int)} (hm : snap_putAlert a0 a1 = some r) : Fun Tryd.prog 18 [(sl (cK .u8)) a0, (ag cGAlert) a1] ((sl (cK .u8)) r) [] := by
  have c1 := @codec_PutUint_run
  have e1 := en_codec_PutUint
  have c2 := @codec_PutLabels_run
  have e2 := en_codec_PutLabels
  have c3 := @codec_PutInt_run
  have e3 := en_codec_PutInt
  refine Fun.of_model (X := fun r => (sl (cK .u8)) r) (O := fun r => []) Tryd.func18 rfl (Nat.le_of_ble_eq_true (by kernel_rfl)) hm ?_
  simp only [Tryd.ntmps18, Tryd.results18, argsO, ag, cGAlert, List.map, AV.ofD]
  unfold snap_putAlert
  clear hm
  exact walk

theorem en_snap_Put : enters Tryd.prog 7 = true := by kernel_rfl
theorem snap_Put_run {a0 : (List GSaved)} {r : (List Int)} (hm : snap_Put a0 = some r) : Fun Tryd.prog 7 [(sl cGSaved) a0] ((sl (cK .u8)) r) [] := by
  have c1 := @codec_PutUint_run
  have e1 := en_codec_PutUint
  have c2 := @codec_PutText_run
  have e2 := en_codec_PutText
  have c3 := @snap_putAlert_run
  have e3 := en_snap_putAlert
  have c4 := @snap_Sane_run
  have e4 := en_snap_Sane
  refine Fun.of_model (X := fun r => (sl (cK .u8)) r) (O := fun r => []) Tryd.func7 rfl (Nat.le_of_ble_eq_true (by kernel_rfl)) hm ?_
  simp only [Tryd.ntmps7, Tryd.results7, argsO]
  unfold snap_Put
  clear hm
  exact walk

theorem en_codec_GetUint : enters Tryd.prog 27 = true := by kernel_rfl
theorem codec_GetUint_run {a0 : (List Int)} {r : Int × (List Int) × Int} (hm : codec_GetUint a0 = some r) : Fun Tryd.prog 27 [(sl (cK .u8)) a0] (.tup [vI r.1, (sl (cK .u8)) r.2.1, vI r.2.2]) [] := by
  refine Fun.of_model (X := fun r => .tup [vI r.1, (sl (cK .u8)) r.2.1, vI r.2.2]) (O := fun r => []) Tryd.func27 rfl (Nat.le_of_ble_eq_true (by kernel_rfl)) hm ?_
  simp only [Tryd.ntmps27, Tryd.results27, argsO]
  unfold codec_GetUint
  clear hm
  exact walk

theorem en_snap_reader_fail_o : enters Tryd.prog 28 = true := by kernel_rfl
theorem snap_reader_fail_o_run {a0 : Int} {a1 : Gsnap_reader} {r : Gsnap_reader} (hm : snap_reader_fail_o a0 a1 = some r) : FunO Tryd.prog 28 [.ptr 0 0, vI a0] [.box [sl (cK .u8) a1.b, vI a1.e]] (.tup []) [.box [sl (cK .u8) r.b, vI r.e]] := by
  refine FunO.of_model (oin := [.box [sl (cK .u8) a1.b, vI a1.e]]) (X := fun r => .tup []) (O := fun r => [.box [sl (cK .u8) r.b, vI r.e]]) Tryd.func28 rfl (Nat.le_of_ble_eq_true (by kernel_rfl)) hm (n0 := 1) rfl ?_
  simp only [Tryd.ntmps28, Tryd.results28, argsO]
  unfold snap_reader_fail_o
  clear hm
  exact walk

theorem en_snap_read_int_o : enters Tryd.prog 26 = true := by kernel_rfl
theorem snap_read_int_o_run {a0 : Gsnap_reader} {r : Int × Gsnap_reader} (hm : snap_read_int_o a0 = some r) : FunO Tryd.prog 26 [.ptr 0 0, .fn 27 [] []] [.box [sl (cK .u8) a0.b, vI a0.e]] (vI r.1) [.box [sl (cK .u8) r.2.b, vI r.2.e]] := by
  have c1 := @snap_reader_fail_o_run
  have e1 := en_snap_reader_fail_o
  have c2 := @codec_GetUint_run
  have e2 := en_codec_GetUint
  refine FunO.of_model (oin := [.box [sl (cK .u8) a0.b, vI a0.e]]) (X := fun r => vI r.1) (O := fun r => [.box [sl (cK .u8) r.2.b, vI r.2.e]]) Tryd.func26 rfl (Nat.le_of_ble_eq_true (by kernel_rfl)) hm (n0 := 1) rfl ?_
  simp only [Tryd.ntmps26, Tryd.results26, argsO]
  unfold snap_read_int_o
  clear hm
  exact walk

theorem en_codec_GetText : enters Tryd.prog 30 = true := by kernel_rfl
theorem codec_GetText_run {a0 : (List Int)} {r : Str × (List Int) × Int} (hm : codec_GetText a0 = some r) : Fun Tryd.prog 30 [(sl (cK .u8)) a0] (.tup [vS r.1, (sl (cK .u8)) r.2.1, vI r.2.2]) [] := by
  have c1 := @codec_GetUint_run
  have e1 := en_codec_GetUint
  refine Fun.of_model (X := fun r => .tup [vS r.1, (sl (cK .u8)) r.2.1, vI r.2.2]) (O := fun r => []) Tryd.func30 rfl (Nat.le_of_ble_eq_true (by kernel_rfl)) hm ?_
  simp only [Tryd.ntmps30, Tryd.results30, argsO]
  unfold codec_GetText
  clear hm
  exact walk

theorem en_snap_read_string_o : enters Tryd.prog 29 = true := by kernel_rfl
theorem snap_read_string_o_run {a0 : Gsnap_reader} {r : Str × Gsnap_reader} (hm : snap_read_string_o a0 = some r) : FunO Tryd.prog 29 [.ptr 0 0, .fn 30 [] []] [.box [sl (cK .u8) a0.b, vI a0.e]] (vS r.1) [.box [sl (cK .u8) r.2.b, vI r.2.e]] := by
  have c1 := @snap_reader_fail_o_run
  have e1 := en_snap_reader_fail_o
  have c2 := @codec_GetText_run
  have e2 := en_codec_GetText
  refine FunO.of_model (oin := [.box [sl (cK .u8) a0.b, vI a0.e]]) (X := fun r => vS r.1) (O := fun r => [.box [sl (cK .u8) r.2.b, vI r.2.e]]) Tryd.func29 rfl (Nat.le_of_ble_eq_true (by kernel_rfl)) hm (n0 := 1) rfl ?_
  simp only [Tryd.ntmps29, Tryd.results29, argsO]
  unfold snap_read_string_o
  clear hm
  exact walk

theorem en_codec_got_int_o : enters Tryd.prog 68 = true := by kernel_rfl
theorem codec_got_int_o_run {a0 : Gcodec_reader} {r : Int × Gcodec_reader} (hm : codec_got_int_o a0 = some r) : FunO Tryd.prog 68 [.ptr 0 0, .fn 27 [] []] [.box [sl (cK .u8) a0.b, vI a0.e]] (vI r.1) [.box [sl (cK .u8) r.2.b, vI r.2.e]] := by
  have c1 := @codec_GetUint_run
  have e1 := en_codec_GetUint
  refine FunO.of_model (oin := [.box [sl (cK .u8) a0.b, vI a0.e]]) (X := fun r => vI r.1) (O := fun r => [.box [sl (cK .u8) r.2.b, vI r.2.e]]) Tryd.func68 rfl (Nat.le_of_ble_eq_true (by kernel_rfl)) hm (n0 := 1) rfl ?_
  simp only [Tryd.ntmps68, Tryd.results68, argsO]
  unfold codec_got_int_o
  clear hm
  exact walk

end Go.Proofs.YtoekflobllmeeaaDoor.AM
