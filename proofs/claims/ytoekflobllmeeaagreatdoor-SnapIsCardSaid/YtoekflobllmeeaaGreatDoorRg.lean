/- A part of the proof: Ru6. -/
import Derived.Test.YtoekflobllmeeaaGreatDoorGo
import Derived.Test.YtoekflobllmeeaaGreatDoorRf
set_option linter.all false
/- The functions run as their models. -/
namespace Go.Proofs.YtoekflobllmeeaaGreatDoor.AM
open Go Go.Proofs
set_option maxRecDepth 20000
set_option maxHeartbeats 4000000

theorem en_ref03_Sane : enters Tryz.prog 61 = true := by kernel_rfl
theorem ref03_Sane_run {a0 : (List GPair)} {r : Bool} (hm : ref03_Sane a0 = some r) : Fun Tryz.prog 61 [(sl cGPair) a0] (vB r) [] := by
  have c1 := @ref03_Name_run
  have e1 := en_ref03_Name
  refine Fun.of_model (X := fun r => vB r) (O := fun r => []) Tryz.func61 rfl (Nat.le_of_ble_eq_true (by kernel_rfl)) hm ?_
  simp only [Tryz.ntmps61, Tryz.results61, argsO]
  unfold ref03_Sane
  clear hm
  exact walk

theorem en_ref05_GetLabels : enters Tryz.prog 85 = true := by kernel_rfl
theorem ref05_GetLabels_run {a0 : (List Int)} {r : (List GPair) × (List Int) × Int} (hm : ref05_GetLabels a0 = some r) : Fun Tryz.prog 85 [(sl (cK .u8)) a0] (.tup [(sl cGPair) r.1, (sl (cK .u8)) r.2.1, vI r.2.2]) [] := by
  have c1 := @ref05_GetUint_run
  have e1 := en_ref05_GetUint
  have c2 := @ref05_GetText_run
  have e2 := en_ref05_GetText
  have c3 := @ref03_Sane_run
  have e3 := en_ref03_Sane
  refine Fun.of_model (X := fun r => .tup [(sl cGPair) r.1, (sl (cK .u8)) r.2.1, vI r.2.2]) (O := fun r => []) Tryz.func85 rfl (Nat.le_of_ble_eq_true (by kernel_rfl)) hm ?_
  simp only [Tryz.ntmps85, Tryz.results85, argsO]
  unfold ref05_GetLabels
  clear hm
  exact walk

theorem en_ref05_GetInt : enters Tryz.prog 86 = true := by kernel_rfl
theorem ref05_GetInt_run {a0 : (List Int)} {r : Int × (List Int) × Int} (hm : ref05_GetInt a0 = some r) : Fun Tryz.prog 86 [(sl (cK .u8)) a0] (.tup [vI r.1, (sl (cK .u8)) r.2.1, vI r.2.2]) [] := by
  have c1 := @ref05_GetUint_run
  have e1 := en_ref05_GetUint
  refine Fun.of_model (X := fun r => .tup [vI r.1, (sl (cK .u8)) r.2.1, vI r.2.2]) (O := fun r => []) Tryz.func86 rfl (Nat.le_of_ble_eq_true (by kernel_rfl)) hm ?_
  simp only [Tryz.ntmps86, Tryz.results86, argsO]
  unfold ref05_GetInt
  clear hm
  exact walk

theorem en_ref20_getAlert : enters Tryz.prog 54 = true := by kernel_rfl
theorem ref20_getAlert_run {a0 : (List Int)} {r : GAlert × (List Int) × Int} (hm : ref20_getAlert a0 = some r) : Fun Tryz.prog 54 [(sl (cK .u8)) a0] (.tup [(ag cGAlert) r.1, (sl (cK .u8)) r.2.1, vI r.2.2]) [] := by
  have c1 := @ref05_GetUint_run
  have e1 := en_ref05_GetUint
  have c2 := @ref05_GetLabels_run
  have e2 := en_ref05_GetLabels
  have c3 := @ref05_GetInt_run
  have e3 := en_ref05_GetInt
  refine Fun.of_model (X := fun r => .tup [(ag cGAlert) r.1, (sl (cK .u8)) r.2.1, vI r.2.2]) (O := fun r => []) Tryz.func54 rfl (Nat.le_of_ble_eq_true (by kernel_rfl)) hm ?_
  simp only [Tryz.ntmps54, Tryz.results54, argsO]
  unfold ref20_getAlert
  clear hm
  exact walk

theorem en_ref20_getTable : enters Tryz.prog 25 = true := by kernel_rfl
theorem ref20_getTable_run {a0 : (List Int)} {r : GSaved × (List Int) × Int} (hm : ref20_getTable a0 = some r) : Fun Tryz.prog 25 [(sl (cK .u8)) a0] (.tup [(ag cGSaved) r.1, (sl (cK .u8)) r.2.1, vI r.2.2]) [] := by
  have c1 := @ref05_GetUint_run
  have e1 := en_ref05_GetUint
  have c2 := @ref05_GetText_run
  have e2 := en_ref05_GetText
  have c3 := @ref20_getAlert_run
  have e3 := en_ref20_getAlert
  refine Fun.of_model (X := fun r => .tup [(ag cGSaved) r.1, (sl (cK .u8)) r.2.1, vI r.2.2]) (O := fun r => []) Tryz.func25 rfl (Nat.le_of_ble_eq_true (by kernel_rfl)) hm ?_
  simp only [Tryz.ntmps25, Tryz.results25, argsO]
  unfold ref20_getTable
  clear hm
  exact walk

theorem en_ref13_Time : enters Tryz.prog 64 = true := by kernel_rfl
theorem ref13_Time_run {a0 : Int} {r : Bool} (hm : ref13_Time a0 = some r) : Fun Tryz.prog 64 [vI a0] (vB r) [] := by
  refine Fun.of_model (X := fun r => vB r) (O := fun r => []) Tryz.func64 rfl (Nat.le_of_ble_eq_true (by kernel_rfl)) hm ?_
  simp only [Tryz.ntmps64, Tryz.results64, argsO]
  unfold ref13_Time
  clear hm
  exact walk

theorem en_ref15_Sane : enters Tryz.prog 62 = true := by kernel_rfl
theorem ref15_Sane_run {a0 : GHold} {r : Bool} (hm : ref15_Sane a0 = some r) : Fun Tryz.prog 62 [(ag cGHold) a0] (vB r) [] := by
  have c1 := @ref13_Time_run
  have e1 := en_ref13_Time
  refine Fun.of_model (X := fun r => vB r) (O := fun r => []) Tryz.func62 rfl (Nat.le_of_ble_eq_true (by kernel_rfl)) hm ?_
  simp only [Tryz.ntmps62, Tryz.results62, argsO, ag, cGHold, List.map, AV.ofD]
  unfold ref15_Sane
  clear hm
  exact walk

theorem en_ref03_As : enters Tryz.prog 93 = true := by kernel_rfl
theorem ref03_As_run {a0 : (List GPair)} {r : (List GPair)} (hm : ref03_As a0 = some r) : Fun Tryz.prog 93 [(sl cGPair) a0] ((sl cGPair) r) [] := by
  have c1 := @ref03_Sane_run
  have e1 := en_ref03_Sane
  refine Fun.of_model (X := fun r => (sl cGPair) r) (O := fun r => []) Tryz.func93 rfl (Nat.le_of_ble_eq_true (by kernel_rfl)) hm ?_
  simp only [Tryz.ntmps93, Tryz.results93, argsO]
  unfold ref03_As
  clear hm
  exact walk

theorem en_ref03_order : enters Tryz.prog 94 = true := by kernel_rfl
theorem ref03_order_run {a0 : Str} {a1 : Str} {r : Int} (hm : ref03_order a0 a1 = some r) : Fun Tryz.prog 94 [vS a0, vS a1] (vI r) [] := by
  refine Fun.of_model (X := fun r => vI r) (O := fun r => []) Tryz.func94 rfl (Nat.le_of_ble_eq_true (by kernel_rfl)) hm ?_
  simp only [Tryz.ntmps94, Tryz.results94, argsO]
  unfold ref03_order
  clear hm
  exact walk

theorem en_ref03_Compare : enters Tryz.prog 63 = true := by kernel_rfl
theorem ref03_Compare_run {a0 : (List GPair)} {a1 : (List GPair)} {r : Int} (hm : ref03_Compare a0 a1 = some r) : Fun Tryz.prog 63 [(sl cGPair) a0, (sl cGPair) a1] (vI r) [] := by
  have c1 := @ref03_As_run
  have e1 := en_ref03_As
  have c2 := @ref03_order_run
  have e2 := en_ref03_order
  refine Fun.of_model (X := fun r => vI r) (O := fun r => []) Tryz.func63 rfl (Nat.le_of_ble_eq_true (by kernel_rfl)) hm ?_
  simp only [Tryz.ntmps63, Tryz.results63, argsO]
  unfold ref03_Compare
  clear hm
  exact walk

theorem en_ref17_Sane : enters Tryz.prog 30 = true := by kernel_rfl
theorem ref17_Sane_run {a0 : GTable} {r : Bool} (hm : ref17_Sane a0 = some r) : Fun Tryz.prog 30 [(ag cGTable) a0] (vB r) [] := by
  have c1 := @ref03_Sane_run
  have e1 := en_ref03_Sane
  have c2 := @ref15_Sane_run
  have e2 := en_ref15_Sane
  have c3 := @ref03_Compare_run
  have e3 := en_ref03_Compare
  have c4 := @ref13_Time_run
  have e4 := en_ref13_Time
  refine Fun.of_model (X := fun r => vB r) (O := fun r => []) Tryz.func30 rfl (Nat.le_of_ble_eq_true (by kernel_rfl)) hm ?_
  simp only [Tryz.ntmps30, Tryz.results30, argsO]
  unfold ref17_Sane
  clear hm
  exact walk

theorem en_ref20_ahead : enters Tryz.prog 31 = true := by kernel_rfl
theorem ref20_ahead_run {a0 : GKey} {a1 : GKey} {r : Bool} (hm : ref20_ahead a0 a1 = some r) : Fun Tryz.prog 31 [(ag cGKey) a0, (ag cGKey) a1] (vB r) [] := by
  refine Fun.of_model (X := fun r => vB r) (O := fun r => []) Tryz.func31 rfl (Nat.le_of_ble_eq_true (by kernel_rfl)) hm ?_
  simp only [Tryz.ntmps31, Tryz.results31, argsO]
  unfold ref20_ahead
  clear hm
  exact walk

end Go.Proofs.YtoekflobllmeeaaGreatDoor.AM
