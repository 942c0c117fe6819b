/- A part of the proof: Ru4. -/
import Derived.Test.YtoekflobllmeeaaDoorGo
import Derived.Test.YtoekflobllmeeaaDoorRa
import Derived.Test.YtoekflobllmeeaaDoorRc
import Derived.Test.YtoekflobllmeeaaDoorRd
set_option linter.all false
/- The functions run as their models. -/
namespace Go.Proofs.YtoekflobllmeeaaDoor.AM
open Go Go.Proofs
set_option maxRecDepth 20000
set_option maxHeartbeats 4000000

theorem en_codec_got_string_o : enters Tryd.prog 69 = true := by kernel_rfl
theorem codec_got_string_o_run {a0 : Gcodec_reader} {r : Str × Gcodec_reader} (hm : codec_got_string_o a0 = some r) : FunO Tryd.prog 69 [.ptr 0 0, .fn 30 [] []] [.box [sl (cK .u8) a0.b, vI a0.e]] (vS r.1) [.box [sl (cK .u8) r.2.b, vI r.2.e]] := by
  have c1 := @codec_GetText_run
  have e1 := en_codec_GetText
  refine FunO.of_model (oin := [.box [sl (cK .u8) a0.b, vI a0.e]]) (X := fun r => vS r.1) (O := fun r => [.box [sl (cK .u8) r.2.b, vI r.2.e]]) Tryd.func69 rfl (Nat.le_of_ble_eq_true (by kernel_rfl)) hm (n0 := 1) rfl ?_
  simp only [Tryd.ntmps69, Tryd.results69, argsO]
  unfold codec_got_string_o
  clear hm
  exact walk

theorem en_codec_GetLabels : enters Tryd.prog 54 = true := by kernel_rfl
theorem codec_GetLabels_run {a0 : (List Int)} {r : (List GPair) × (List Int) × Int} (hm : codec_GetLabels a0 = some r) : Fun Tryd.prog 54 [(sl (cK .u8)) a0] (.tup [(sl cGPair) r.1, (sl (cK .u8)) r.2.1, vI r.2.2]) [] := by
  have c1 := @codec_got_int_o_run
  have e1 := en_codec_got_int_o
  have c2 := @codec_got_string_o_run
  have e2 := en_codec_got_string_o
  have c3 := @label_Sane_run
  have e3 := en_label_Sane
  refine Fun.of_model (X := fun r => .tup [(sl cGPair) r.1, (sl (cK .u8)) r.2.1, vI r.2.2]) (O := fun r => []) Tryd.func54 rfl (Nat.le_of_ble_eq_true (by kernel_rfl)) hm ?_
  simp only [Tryd.ntmps54, Tryd.results54, argsO]
  unfold codec_GetLabels
  clear hm
  exact walk

theorem en_snap_read_Pair_o : enters Tryd.prog 53 = true := by kernel_rfl
theorem snap_read_Pair_o_run {a0 : Gsnap_reader} {r : (List GPair) × Gsnap_reader} (hm : snap_read_Pair_o a0 = some r) : FunO Tryd.prog 53 [.ptr 0 0, .fn 54 [] []] [.box [sl (cK .u8) a0.b, vI a0.e]] ((sl cGPair) r.1) [.box [sl (cK .u8) r.2.b, vI r.2.e]] := by
  have c1 := @snap_reader_fail_o_run
  have e1 := en_snap_reader_fail_o
  have c2 := @codec_GetLabels_run
  have e2 := en_codec_GetLabels
  refine FunO.of_model (oin := [.box [sl (cK .u8) a0.b, vI a0.e]]) (X := fun r => (sl cGPair) r.1) (O := fun r => [.box [sl (cK .u8) r.2.b, vI r.2.e]]) Tryd.func53 rfl (Nat.le_of_ble_eq_true (by kernel_rfl)) hm (n0 := 1) rfl ?_
  simp only [Tryd.ntmps53, Tryd.results53, argsO]
  unfold snap_read_Pair_o
  clear hm
  exact walk

theorem en_codec_GetInt : enters Tryd.prog 55 = true := by kernel_rfl
theorem codec_GetInt_run {a0 : (List Int)} {r : Int × (List Int) × Int} (hm : codec_GetInt a0 = some r) : Fun Tryd.prog 55 [(sl (cK .u8)) a0] (.tup [vI r.1, (sl (cK .u8)) r.2.1, vI r.2.2]) [] := by
  have c1 := @codec_GetUint_run
  have e1 := en_codec_GetUint
  refine Fun.of_model (X := fun r => .tup [vI r.1, (sl (cK .u8)) r.2.1, vI r.2.2]) (O := fun r => []) Tryd.func55 rfl (Nat.le_of_ble_eq_true (by kernel_rfl)) hm ?_
  simp only [Tryd.ntmps55, Tryd.results55, argsO]
  unfold codec_GetInt
  clear hm
  exact walk

theorem en_snap_read_int_o1 : enters Tryd.prog 26 = true := by kernel_rfl
theorem snap_read_int_o1_run {a0 : Gsnap_reader} {r : Int × Gsnap_reader} (hm : snap_read_int_o1 a0 = some r) : FunO Tryd.prog 26 [.ptr 0 0, .fn 55 [] []] [.box [sl (cK .u8) a0.b, vI a0.e]] (vI r.1) [.box [sl (cK .u8) r.2.b, vI r.2.e]] := by
  have c1 := @snap_reader_fail_o_run
  have e1 := en_snap_reader_fail_o
  have c2 := @codec_GetInt_run
  have e2 := en_codec_GetInt
  refine FunO.of_model (oin := [.box [sl (cK .u8) a0.b, vI a0.e]]) (X := fun r => vI r.1) (O := fun r => [.box [sl (cK .u8) r.2.b, vI r.2.e]]) Tryd.func26 rfl (Nat.le_of_ble_eq_true (by kernel_rfl)) hm (n0 := 1) rfl ?_
  simp only [Tryd.ntmps26, Tryd.results26, argsO]
  unfold snap_read_int_o1
  clear hm
  exact walk

theorem en_snap_reader_alert_o : enters Tryd.prog 32 = true := by kernel_rfl
theorem snap_reader_alert_o_run {a0 : Gsnap_reader} {r : GAlert × Gsnap_reader} (hm : snap_reader_alert_o a0 = some r) : FunO Tryd.prog 32 [.ptr 0 0] [.box [sl (cK .u8) a0.b, vI a0.e]] ((ag cGAlert) r.1) [.box [sl (cK .u8) r.2.b, vI r.2.e]] := by
  have c1 := @snap_read_int_o_run
  have e1 := en_snap_read_int_o
  have c2 := @snap_read_int_o1_run
  have e2 := en_snap_read_int_o1
  have c3 := @snap_reader_fail_o_run
  have e3 := en_snap_reader_fail_o
  have c4 := @snap_read_Pair_o_run
  have e4 := en_snap_read_Pair_o
  refine FunO.of_model (oin := [.box [sl (cK .u8) a0.b, vI a0.e]]) (X := fun r => (ag cGAlert) r.1) (O := fun r => [.box [sl (cK .u8) r.2.b, vI r.2.e]]) Tryd.func32 rfl (Nat.le_of_ble_eq_true (by kernel_rfl)) hm (n0 := 1) rfl ?_
  simp only [Tryd.ntmps32, Tryd.results32, argsO]
  unfold snap_reader_alert_o
  clear hm
  exact walk

theorem en_snap_many_Alert_o : enters Tryd.prog 31 = true := by kernel_rfl
theorem snap_many_Alert_o_run {a0 : Int} {a1 : Gsnap_reader} {r : (List GAlert) × Gsnap_reader} (hm : snap_many_Alert_o a0 a1 = some r) : FunO Tryd.prog 31 [.ptr 0 0, vI a0, .fn 32 [.ptr 0 0] []] [.box [sl (cK .u8) a1.b, vI a1.e]] ((sl cGAlert) r.1) [.box [sl (cK .u8) r.2.b, vI r.2.e]] := by
  have c1 := @snap_read_int_o_run
  have e1 := en_snap_read_int_o
  have c2 := @snap_reader_fail_o_run
  have e2 := en_snap_reader_fail_o
  have c3 := @snap_reader_alert_o_run
  have e3 := en_snap_reader_alert_o
  refine FunO.of_model (oin := [.box [sl (cK .u8) a1.b, vI a1.e]]) (X := fun r => (sl cGAlert) r.1) (O := fun r => [.box [sl (cK .u8) r.2.b, vI r.2.e]]) Tryd.func31 rfl (Nat.le_of_ble_eq_true (by kernel_rfl)) hm (n0 := 1) rfl ?_
  simp only [Tryd.ntmps31, Tryd.results31, argsO]
  unfold snap_many_Alert_o
  clear hm
  exact walk

theorem en_snap_reader_saved_o : enters Tryd.prog 12 = true := by kernel_rfl
theorem snap_reader_saved_o_run {a0 : Gsnap_reader} {r : GSaved × Gsnap_reader} (hm : snap_reader_saved_o a0 = some r) : FunO Tryd.prog 12 [.ptr 0 0] [.box [sl (cK .u8) a0.b, vI a0.e]] ((ag cGSaved) r.1) [.box [sl (cK .u8) r.2.b, vI r.2.e]] := by
  have c1 := @snap_read_int_o_run
  have e1 := en_snap_read_int_o
  have c2 := @snap_read_string_o_run
  have e2 := en_snap_read_string_o
  have c3 := @snap_many_Alert_o_run
  have e3 := en_snap_many_Alert_o
  refine FunO.of_model (oin := [.box [sl (cK .u8) a0.b, vI a0.e]]) (X := fun r => (ag cGSaved) r.1) (O := fun r => [.box [sl (cK .u8) r.2.b, vI r.2.e]]) Tryd.func12 rfl (Nat.le_of_ble_eq_true (by kernel_rfl)) hm (n0 := 1) rfl ?_
  simp only [Tryd.ntmps12, Tryd.results12, argsO]
  unfold snap_reader_saved_o
  clear hm
  exact walk

theorem en_snap_many_Saved_o : enters Tryd.prog 11 = true := by kernel_rfl
theorem snap_many_Saved_o_run {a0 : Int} {a1 : Gsnap_reader} {r : (List GSaved) × Gsnap_reader} (hm : snap_many_Saved_o a0 a1 = some r) : FunO Tryd.prog 11 [.ptr 0 0, vI a0, .fn 12 [.ptr 0 0] []] [.box [sl (cK .u8) a1.b, vI a1.e]] ((sl cGSaved) r.1) [.box [sl (cK .u8) r.2.b, vI r.2.e]] := by
  have c1 := @snap_reader_saved_o_run
  have e1 := en_snap_reader_saved_o
  have c2 := @snap_read_int_o_run
  have e2 := en_snap_read_int_o
  have c3 := @snap_reader_fail_o_run
  have e3 := en_snap_reader_fail_o
  refine FunO.of_model (oin := [.box [sl (cK .u8) a1.b, vI a1.e]]) (X := fun r => (sl cGSaved) r.1) (O := fun r => [.box [sl (cK .u8) r.2.b, vI r.2.e]]) Tryd.func11 rfl (Nat.le_of_ble_eq_true (by kernel_rfl)) hm (n0 := 1) rfl ?_
  simp only [Tryd.ntmps11, Tryd.results11, argsO]
  unfold snap_many_Saved_o
  clear hm
  exact walk

theorem en_snap_Get : enters Tryd.prog 5 = true := by kernel_rfl
theorem snap_Get_run {a0 : (List Int)} {r : (List GSaved) × Int} (hm : snap_Get a0 = some r) : Fun Tryd.prog 5 [(sl (cK .u8)) a0] (.tup [(sl cGSaved) r.1, vI r.2]) [] := by
  have c1 := @snap_many_Saved_o_run
  have e1 := en_snap_many_Saved_o
  have c2 := @snap_Sane_run
  have e2 := en_snap_Sane
  refine Fun.of_model (X := fun r => .tup [(sl cGSaved) r.1, vI r.2]) (O := fun r => []) Tryd.func5 rfl (Nat.le_of_ble_eq_true (by kernel_rfl)) hm ?_
  simp only [Tryd.ntmps5, Tryd.results5, argsO]
  unfold snap_Get
  clear hm
  exact walk

theorem en_ref03_Same : enters Tryd.prog 84 = true := by kernel_rfl
theorem ref03_Same_run {a0 : (List GPair)} {a1 : (List GPair)} {r : Bool} (hm : ref03_Same a0 a1 = some r) : Fun Tryd.prog 84 [(sl cGPair) a0, (sl cGPair) a1] (vB r) [] := by
  have q1 := aeq_36; have p1 := eqg_36
  refine Fun.of_model (X := fun r => vB r) (O := fun r => []) Tryd.func84 rfl (Nat.le_of_ble_eq_true (by kernel_rfl)) hm ?_
  simp only [Tryd.ntmps84, Tryd.results84, argsO]
  unfold ref03_Same
  clear hm
  exact walk

theorem en_ref17_SameAlert : enters Tryd.prog 67 = true := by kernel_rfl
theorem ref17_SameAlert_run {a0 : GAlert} {a1 : GAlert} {r : Bool} (hm : ref17_SameAlert a0 a1 = some r) : Fun Tryd.prog 67 [(ag cGAlert) a0, (ag cGAlert) a1] (vB r) [] := by
  have c1 := @ref03_Same_run
  have e1 := en_ref03_Same
  have q1 := aeq_60; have p1 := eqg_60
  refine Fun.of_model (X := fun r => vB r) (O := fun r => []) Tryd.func67 rfl (Nat.le_of_ble_eq_true (by kernel_rfl)) hm ?_
  simp only [Tryd.ntmps67, Tryd.results67, argsO]
  unfold ref17_SameAlert
  clear hm
  exact walk

end Go.Proofs.YtoekflobllmeeaaDoor.AM
