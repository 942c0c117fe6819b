/- A part of the proof: Ru7. -/
import Derived.Test.YtoekflobllmeeaaGreatDoorGo
import Derived.Test.YtoekflobllmeeaaGreatDoorRc
import Derived.Test.YtoekflobllmeeaaGreatDoorRd
import Derived.Test.YtoekflobllmeeaaGreatDoorRe
import Derived.Test.YtoekflobllmeeaaGreatDoorRf
import Derived.Test.YtoekflobllmeeaaGreatDoorRg
set_option linter.all false
/- The functions run as their models. -/
namespace Go.Proofs.YtoekflobllmeeaaGreatDoor.AM
open Go Go.Proofs
set_option maxRecDepth 20000
set_option maxHeartbeats 4000000

theorem en_ref20_Sane : enters Tryz.prog 13 = true := by kernel_rfl
theorem ref20_Sane_run {a0 : (List GSaved)} {r : Bool} (hm : ref20_Sane a0 = some r) : Fun Tryz.prog 13 [(sl cGSaved) a0] (vB r) [] := by
  have c1 := @ref03_Name_run
  have e1 := en_ref03_Name
  have c2 := @ref17_Sane_run
  have e2 := en_ref17_Sane
  have c3 := @ref20_ahead_run
  have e3 := en_ref20_ahead
  refine Fun.of_model (X := fun r => vB r) (O := fun r => []) Tryz.func13 rfl (Nat.le_of_ble_eq_true (by kernel_rfl)) hm ?_
  simp only [Tryz.ntmps13, Tryz.results13, argsO]
  unfold ref20_Sane
  clear hm
  exact walk

theorem en_ref20_Get : enters Tryz.prog 10 = true := by kernel_rfl
theorem ref20_Get_run {a0 : (List Int)} {r : (List GSaved) × Int} (hm : ref20_Get a0 = some r) : Fun Tryz.prog 10 [(sl (cK .u8)) a0] (.tup [(sl cGSaved) r.1, vI r.2]) [] := by
  have c1 := @ref20_Sane_run
  have e1 := en_ref20_Sane
  have c2 := @ref05_GetUint_run
  have e2 := en_ref05_GetUint
  have c3 := @ref20_getTable_run
  have e3 := en_ref20_getTable
  refine Fun.of_model (X := fun r => .tup [(sl cGSaved) r.1, vI r.2]) (O := fun r => []) Tryz.func10 rfl (Nat.le_of_ble_eq_true (by kernel_rfl)) hm ?_
  simp only [Tryz.ntmps10, Tryz.results10, argsO]
  unfold ref20_Get
  clear hm
  exact walk

theorem en_ref05_PutUint : enters Tryz.prog 35 = true := by kernel_rfl
theorem ref05_PutUint_run {a0 : (List Int)} {a1 : Int} {r : (List Int)} (hm : ref05_PutUint a0 a1 = some r) : Fun Tryz.prog 35 [(sl (cK .u8)) a0, vI a1] (so 0 (cK .u8) r) [tk r.length 1 5] := by
  refine Fun.of_model (X := fun r => so 0 (cK .u8) r) (O := fun r => [tk r.length 1 5]) Tryz.func35 rfl (Nat.le_of_ble_eq_true (by kernel_rfl)) hm ?_
  simp only [Tryz.ntmps35, Tryz.results35, argsO]
  unfold ref05_PutUint
  clear hm
  exact walk

theorem en_ref05_PutText : enters Tryz.prog 36 = true := by kernel_rfl
theorem ref05_PutText_run {a0 : (List Int)} {a1 : Str} {r : (List Int)} (hm : ref05_PutText a0 a1 = some r) : Fun Tryz.prog 36 [(sl (cK .u8)) a0, vS a1] (so 0 (cK .u8) r) [tk r.length 1 5] := by
  have c1 := @ref05_PutUint_run
  have e1 := en_ref05_PutUint
  refine Fun.of_model (X := fun r => so 0 (cK .u8) r) (O := fun r => [tk r.length 1 5]) Tryz.func36 rfl (Nat.le_of_ble_eq_true (by kernel_rfl)) hm ?_
  simp only [Tryz.ntmps36, Tryz.results36, argsO]
  unfold ref05_PutText
  clear hm
  exact walk

theorem en_ref05_PutLabels : enters Tryz.prog 70 = true := by kernel_rfl
theorem ref05_PutLabels_run {a0 : (List Int)} {a1 : (List GPair)} {r : (List Int)} (hm : ref05_PutLabels a0 a1 = some r) : Fun Tryz.prog 70 [(sl (cK .u8)) a0, (sl cGPair) a1] (so 0 (cK .u8) r) [.tok r.length 1 5 false] := by
  have c1 := @ref05_PutUint_run
  have e1 := en_ref05_PutUint
  have c2 := @ref05_PutText_run
  have e2 := en_ref05_PutText
  have c3 := @ref03_As_run
  have e3 := en_ref03_As
  refine Fun.of_model (X := fun r => so 0 (cK .u8) r) (O := fun r => [.tok r.length 1 5 false]) Tryz.func70 rfl (Nat.le_of_ble_eq_true (by kernel_rfl)) hm ?_
  simp only [Tryz.ntmps70, Tryz.results70, argsO]
  unfold ref05_PutLabels
  clear hm
  exact walk

theorem en_ref05_PutInt : enters Tryz.prog 71 = true := by kernel_rfl
theorem ref05_PutInt_run {a0 : (List Int)} {a1 : Int} {r : (List Int)} (hm : ref05_PutInt a0 a1 = some r) : Fun Tryz.prog 71 [(sl (cK .u8)) a0, vI a1] (so 0 (cK .u8) r) [tk r.length 1 5] := by
  have c1 := @ref05_PutUint_run
  have e1 := en_ref05_PutUint
  refine Fun.of_model (X := fun r => so 0 (cK .u8) r) (O := fun r => [tk r.length 1 5]) Tryz.func71 rfl (Nat.le_of_ble_eq_true (by kernel_rfl)) hm ?_
  simp only [Tryz.ntmps71, Tryz.results71, argsO]
  unfold ref05_PutInt
  clear hm
  exact walk

theorem en_ref20_putAlert : enters Tryz.prog 37 = true := by kernel_rfl
theorem ref20_putAlert_run {a0 : (List Int)} {a1 : GAlert} {r : (List Int)} (hm : ref20_putAlert a0 a1 = some r) : Fun Tryz.prog 37 [(sl (cK .u8)) a0, (ag cGAlert) a1] ((sl (cK .u8)) r) [] := by
  have c1 := @ref05_PutUint_run
  have e1 := en_ref05_PutUint
  have c2 := @ref05_PutLabels_run
  have e2 := en_ref05_PutLabels
  have c3 := @ref05_PutInt_run
  have e3 := en_ref05_PutInt
  refine Fun.of_model (X := fun r => (sl (cK .u8)) r) (O := fun r => []) Tryz.func37 rfl (Nat.le_of_ble_eq_true (by kernel_rfl)) hm ?_
  simp only [Tryz.ntmps37, Tryz.results37, argsO, ag, cGAlert, List.map, AV.ofD]
  unfold ref20_putAlert
  clear hm
  exact walk

theorem en_ref20_Put : enters Tryz.prog 15 = true := by kernel_rfl
theorem ref20_Put_run {a0 : (List GSaved)} {r : (List Int)} (hm : ref20_Put a0 = some r) : Fun Tryz.prog 15 [(sl cGSaved) a0] ((sl (cK .u8)) r) [] := by
  have c1 := @ref20_Sane_run
  have e1 := en_ref20_Sane
  have c2 := @ref05_PutUint_run
  have e2 := en_ref05_PutUint
  have c3 := @ref05_PutText_run
  have e3 := en_ref05_PutText
  have c4 := @ref20_putAlert_run
  have e4 := en_ref20_putAlert
  refine Fun.of_model (X := fun r => (sl (cK .u8)) r) (O := fun r => []) Tryz.func15 rfl (Nat.le_of_ble_eq_true (by kernel_rfl)) hm ?_
  simp only [Tryz.ntmps15, Tryz.results15, argsO]
  unfold ref20_Put
  clear hm
  exact walk

theorem en_ref20_Find : enters Tryz.prog 18 = true := by kernel_rfl
theorem ref20_Find_run {a0 : (List GSaved)} {a1 : GKey} {r : GTable} (hm : ref20_Find a0 a1 = some r) : Fun Tryz.prog 18 [(sl cGSaved) a0, (ag cGKey) a1] ((ag cGTable) r) [] := by
  have c1 := @ref20_Sane_run
  have e1 := en_ref20_Sane
  have q1 := aeq_25; have p1 := eqg_25
  refine Fun.of_model (X := fun r => (ag cGTable) r) (O := fun r => []) Tryz.func18 rfl (Nat.le_of_ble_eq_true (by kernel_rfl)) hm ?_
  simp only [Tryz.ntmps18, Tryz.results18, argsO]
  unfold ref20_Find
  clear hm
  exact walk

theorem en_law20_SnapIs : enters Tryz.prog 3 = true := by kernel_rfl
theorem law20_SnapIs_run {a0 : (List GSaved)} {a1 : (List Int)} {a2 : GKey} {r : Bool} (hm : law20_SnapIs a0 a1 a2 = some r) : Fun Tryz.prog 3 [(sl cGSaved) a0, (sl (cK .u8)) a1, (ag cGKey) a2] (vB r) [] := by
  have c1 := @ref20_Get_run
  have e1 := en_ref20_Get
  have c2 := @ref20_Same_run
  have e2 := en_ref20_Same
  have c3 := @snap_Sane_run
  have e3 := en_snap_Sane
  have c4 := @ref20_Sane_run
  have e4 := en_ref20_Sane
  have c5 := @snap_Put_run
  have e5 := en_snap_Put
  have c6 := @ref20_Put_run
  have e6 := en_ref20_Put
  have c7 := @ref17_Same_run
  have e7 := en_ref17_Same
  have c8 := @snap_Find_run
  have e8 := en_snap_Find
  have c9 := @ref20_Find_run
  have e9 := en_ref20_Find
  have c10 := @law20_awake_run
  have e10 := en_law20_awake
  have c11 := @ref20_Few_run
  have e11 := en_ref20_Few
  have c12 := @snap_Get_run
  have e12 := en_snap_Get
  refine Fun.of_model (X := fun r => vB r) (O := fun r => []) Tryz.func3 rfl (Nat.le_of_ble_eq_true (by kernel_rfl)) hm ?_
  simp only [Tryz.ntmps3, Tryz.results3, argsO]
  unfold law20_SnapIs
  clear hm
  exact walk

theorem en_law20_SnapBack : enters Tryz.prog 4 = true := by kernel_rfl
theorem law20_SnapBack_run {a0 : (List GSaved)} {a1 : Int} {a2 : Int} {r : Bool} (hm : law20_SnapBack a0 a1 a2 = some r) : Fun Tryz.prog 4 [(sl cGSaved) a0, vI a1, (vK .u8) a2] (vB r) [] := by
  have c1 := @ref20_Same_run
  have e1 := en_ref20_Same
  have c2 := @snap_Sane_run
  have e2 := en_snap_Sane
  have c3 := @snap_Put_run
  have e3 := en_snap_Put
  have c4 := @law20_awake_run
  have e4 := en_law20_awake
  have c5 := @ref20_Few_run
  have e5 := en_ref20_Few
  have c6 := @snap_Get_run
  have e6 := en_snap_Get
  refine Fun.of_model (X := fun r => vB r) (O := fun r => []) Tryz.func4 rfl (Nat.le_of_ble_eq_true (by kernel_rfl)) hm ?_
  simp only [Tryz.ntmps4, Tryz.results4, argsO]
  unfold law20_SnapBack
  clear hm
  exact walk

theorem en_law20_SnapFinds : enters Tryz.prog 5 = true := by kernel_rfl
theorem law20_SnapFinds_run {a0 : (List GSaved)} {a1 : GKey} {r : Bool} (hm : law20_SnapFinds a0 a1 = some r) : Fun Tryz.prog 5 [(sl cGSaved) a0, (ag cGKey) a1] (vB r) [] := by
  have c1 := @snap_Sane_run
  have e1 := en_snap_Sane
  have c2 := @ref17_Same_run
  have e2 := en_ref17_Same
  have c3 := @snap_Find_run
  have e3 := en_snap_Find
  have c4 := @law20_awake_run
  have e4 := en_law20_awake
  have c5 := @ref20_Few_run
  have e5 := en_ref20_Few
  have q1 := aeq_25; have p1 := eqg_25
  refine Fun.of_model (X := fun r => vB r) (O := fun r => []) Tryz.func5 rfl (Nat.le_of_ble_eq_true (by kernel_rfl)) hm ?_
  simp only [Tryz.ntmps5, Tryz.results5, argsO]
  unfold law20_SnapFinds
  clear hm
  exact walk

end Go.Proofs.YtoekflobllmeeaaGreatDoor.AM
