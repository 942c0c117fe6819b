/- A part of the proof: Ru1. -/
import Derived.Test.YtcpjmkbcefmldaaGreatDoorGo
import Derived.Test.YtcpjmkbcefmldaaGreatDoorRa
set_option linter.all false
/- The functions run as their models. -/
namespace Go.Proofs.YtcpjmkbcefmldaaGreatDoor.AM
open Go Go.Proofs
set_option maxRecDepth 20000
set_option maxHeartbeats 4000000

theorem en_slices_CompareFunc_Pair_Pair_Pair_Pair_label_Compare_1 : enters Tryz.prog 50 = true := by kernel_rfl
theorem slices_CompareFunc_Pair_Pair_Pair_Pair_label_Compare_1_run {a0 : (List GPair)} {a1 : (List GPair)} {r : Int} (hm : slices_CompareFunc_Pair_Pair_Pair_Pair_label_Compare_1 a0 a1 = some r) : Fun Tryz.prog 50 [(sl cGPair) a0, (sl cGPair) a1, .fn 51 [] []] (vI r) [] := by
  have c1 := @label_Compare_1_run
  have e1 := en_label_Compare_1
  refine Fun.of_model (X := fun r => vI r) (O := fun r => []) Tryz.func50 rfl (Nat.le_of_ble_eq_true (by kernel_rfl)) hm ?_
  simp only [Tryz.ntmps50, Tryz.results50, argsO]
  unfold slices_CompareFunc_Pair_Pair_Pair_Pair_label_Compare_1
  clear hm
  exact walk

theorem en_label_Compare : enters Tryz.prog 19 = true := by kernel_rfl
theorem label_Compare_run {a0 : (List GPair)} {a1 : (List GPair)} {r : Int} (hm : label_Compare a0 a1 = some r) : Fun Tryz.prog 19 [(sl cGPair) a0, (sl cGPair) a1] (vI r) [] := by
  have c1 := @slices_CompareFunc_Pair_Pair_Pair_Pair_label_Compare_1_run
  have e1 := en_slices_CompareFunc_Pair_Pair_Pair_Pair_label_Compare_1
  have c2 := @label_counts_run
  have e2 := en_label_counts
  refine Fun.of_model (X := fun r => vI r) (O := fun r => []) Tryz.func19 rfl (Nat.le_of_ble_eq_true (by kernel_rfl)) hm ?_
  simp only [Tryz.ntmps19, Tryz.results19, argsO]
  unfold label_Compare
  clear hm
  exact walk

theorem en_store_Sane : enters Tryz.prog 11 = true := by kernel_rfl
theorem store_Sane_run {a0 : (List GSeries)} {r : Bool} (hm : store_Sane a0 = some r) : Fun Tryz.prog 11 [(sl cGSeries) a0] (vB r) [] := by
  have c1 := @label_Compare_run
  have e1 := en_label_Compare
  have c2 := @store_named_run
  have e2 := en_store_named
  have c3 := @series_Sane_run
  have e3 := en_series_Sane
  refine Fun.of_model (X := fun r => vB r) (O := fun r => []) Tryz.func11 rfl (Nat.le_of_ble_eq_true (by kernel_rfl)) hm ?_
  simp only [Tryz.ntmps11, Tryz.results11, argsO]
  unfold store_Sane
  clear hm
  exact walk

theorem en_store_counted : enters Tryz.prog 45 = true := by kernel_rfl
theorem store_counted_run {a0 : (List GSeries)} {r : (List GSeries)} (hm : store_counted a0 = some r) : Fun Tryz.prog 45 [(sl cGSeries) a0] ((sl cGSeries) r) [] := by
  have c1 := @store_Sane_run
  have e1 := en_store_Sane
  refine Fun.of_model (X := fun r => (sl cGSeries) r) (O := fun r => []) Tryz.func45 rfl (Nat.le_of_ble_eq_true (by kernel_rfl)) hm ?_
  simp only [Tryz.ntmps45, Tryz.results45, argsO]
  unfold store_counted
  clear hm
  exact walk

theorem en_store_seeker_compare : enters Tryz.prog 85 = true := by kernel_rfl
theorem store_seeker_compare_run {a0 : Gstore_seeker} {a1 : Int} {r : Int} (hm : store_seeker_compare a0 a1 = some r) : Fun Tryz.prog 85 [(ag cGstore_seeker) a0, vI a1] (vI r) [] := by
  have c1 := @label_Compare_run
  have e1 := en_label_Compare
  refine Fun.of_model (X := fun r => vI r) (O := fun r => []) Tryz.func85 rfl (Nat.le_of_ble_eq_true (by kernel_rfl)) hm ?_
  simp only [Tryz.ntmps85, Tryz.results85, argsO]
  unfold store_seeker_compare
  clear hm
  exact walk

theorem en_sort_Find_o : enters Tryz.prog 84 = true := by kernel_rfl
theorem sort_Find_o_run {a0 : Int} {a1 : Gstore_seeker} {r : Int × Bool} (hm : sort_Find_o a0 a1 = some r) : FunO Tryz.prog 84 [vI a0, .fn 85 [.agg [sl cGSeries a1.st, sl cGPair a1.l]] []] [] (.tup [vI r.1, vB r.2]) [] := by
  have c1 := @store_seeker_compare_run
  have e1 := en_store_seeker_compare
  refine FunO.of_model (oin := []) (X := fun r => .tup [vI r.1, vB r.2]) (O := fun r => []) Tryz.func84 rfl (Nat.le_of_ble_eq_true (by kernel_rfl)) hm (n0 := 0) rfl ?_
  simp only [Tryz.ntmps84, Tryz.results84, argsO]
  unfold sort_Find_o
  clear hm
  exact walk

theorem en_store_find : enters Tryz.prog 62 = true := by kernel_rfl
theorem store_find_run {a0 : (List GSeries)} {a1 : (List GPair)} {r : Int × Bool} (hm : store_find a0 a1 = some r) : Fun Tryz.prog 62 [(sl cGSeries) a0, (sl cGPair) a1] (.tup [vI r.1, vB r.2]) [] := by
  have c1 := @sort_Find_o_run
  have e1 := en_sort_Find_o
  refine Fun.of_model (X := fun r => .tup [vI r.1, vB r.2]) (O := fun r => []) Tryz.func62 rfl (Nat.le_of_ble_eq_true (by kernel_rfl)) hm ?_
  simp only [Tryz.ntmps62, Tryz.results62, argsO]
  unfold store_find
  clear hm
  exact walk

theorem series_counted_run {a0 : (List GSample)} {r : (List GSample)} (hm : series_counted a0 = some r) : Fun Tryz.prog 72 [(sl cGSample) a0] ((sl cGSample) r) [] := by
  have c1 := @series_Sane_run
  have e1 := en_series_Sane
  refine Fun.of_model (X := fun r => (sl cGSample) r) (O := fun r => []) Tryz.func72 rfl (Nat.le_of_ble_eq_true (by kernel_rfl)) hm ?_
  simp only [Tryz.ntmps72, Tryz.results72, argsO]
  unfold series_counted
  clear hm
  exact walk

theorem en_slices_Clone_Series_Series : enters Tryz.prog 64 = true := by kernel_rfl
theorem slices_Clone_Series_Series_run {a0 : (List GSeries)} {r : (List GSeries)} (hm : slices_Clone_Series_Series a0 = some r) : Fun Tryz.prog 64 [(sl cGSeries) a0] (so 0 cGSeries r) [tk r.length 2 77] := by
  refine Fun.of_model (X := fun r => so 0 cGSeries r) (O := fun r => [tk r.length 2 77]) Tryz.func64 rfl (Nat.le_of_ble_eq_true (by kernel_rfl)) hm ?_
  simp only [Tryz.ntmps64, Tryz.results64, argsO]
  unfold slices_Clone_Series_Series
  clear hm
  exact walk

end Go.Proofs.YtcpjmkbcefmldaaGreatDoor.AM
