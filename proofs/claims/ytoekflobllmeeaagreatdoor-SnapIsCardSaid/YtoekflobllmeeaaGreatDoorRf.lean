/- A part of the proof: Ru5. -/
import Derived.Test.YtoekflobllmeeaaGreatDoorGo
import Derived.Test.YtoekflobllmeeaaGreatDoorRc
import Derived.Test.YtoekflobllmeeaaGreatDoorRd
import Derived.Test.YtoekflobllmeeaaGreatDoorRe
set_option linter.all false
/- The functions run as their models. -/
namespace Go.Proofs.YtoekflobllmeeaaGreatDoor.AM
open Go Go.Proofs
set_option maxRecDepth 20000
set_option maxHeartbeats 4000000

theorem en_ref17_SameAlerts : enters Tryz.prog 38 = true := by kernel_rfl
theorem ref17_SameAlerts_run {a0 : (List GAlert)} {a1 : (List GAlert)} {r : Bool} (hm : ref17_SameAlerts a0 a1 = some r) : Fun Tryz.prog 38 [(sl cGAlert) a0, (sl cGAlert) a1] (vB r) [] := by
  have c1 := @ref17_SameAlert_run
  have e1 := en_ref17_SameAlert
  refine Fun.of_model (X := fun r => vB r) (O := fun r => []) Tryz.func38 rfl (Nat.le_of_ble_eq_true (by kernel_rfl)) hm ?_
  simp only [Tryz.ntmps38, Tryz.results38, argsO]
  unfold ref17_SameAlerts
  clear hm
  exact walk

theorem en_ref17_Same : enters Tryz.prog 16 = true := by kernel_rfl
theorem ref17_Same_run {a0 : GTable} {a1 : GTable} {r : Bool} (hm : ref17_Same a0 a1 = some r) : Fun Tryz.prog 16 [(ag cGTable) a0, (ag cGTable) a1] (vB r) [] := by
  have c1 := @ref17_SameAlerts_run
  have e1 := en_ref17_SameAlerts
  refine Fun.of_model (X := fun r => vB r) (O := fun r => []) Tryz.func16 rfl (Nat.le_of_ble_eq_true (by kernel_rfl)) hm ?_
  simp only [Tryz.ntmps16, Tryz.results16, argsO]
  unfold ref17_Same
  clear hm
  exact walk

theorem en_ref20_Same : enters Tryz.prog 11 = true := by kernel_rfl
theorem ref20_Same_run {a0 : (List GSaved)} {a1 : (List GSaved)} {r : Bool} (hm : ref20_Same a0 a1 = some r) : Fun Tryz.prog 11 [(sl cGSaved) a0, (sl cGSaved) a1] (vB r) [] := by
  have c1 := @ref17_Same_run
  have e1 := en_ref17_Same
  have q1 := aeq_25; have p1 := eqg_25
  refine Fun.of_model (X := fun r => vB r) (O := fun r => []) Tryz.func11 rfl (Nat.le_of_ble_eq_true (by kernel_rfl)) hm ?_
  simp only [Tryz.ntmps11, Tryz.results11, argsO]
  unfold ref20_Same
  clear hm
  exact walk

theorem en_snap_Find : enters Tryz.prog 17 = true := by kernel_rfl
theorem snap_Find_run {a0 : (List GSaved)} {a1 : GKey} {r : GTable} (hm : snap_Find a0 a1 = some r) : Fun Tryz.prog 17 [(sl cGSaved) a0, (ag cGKey) a1] ((ag cGTable) r) [] := by
  have c1 := @snap_Sane_run
  have e1 := en_snap_Sane
  have q1 := aeq_25; have p1 := eqg_25
  refine Fun.of_model (X := fun r => (ag cGTable) r) (O := fun r => []) Tryz.func17 rfl (Nat.le_of_ble_eq_true (by kernel_rfl)) hm ?_
  simp only [Tryz.ntmps17, Tryz.results17, argsO]
  unfold snap_Find
  clear hm
  exact walk

theorem en_law20_awake : enters Tryz.prog 7 = true := by kernel_rfl
theorem law20_awake_run {r : Bool} (hm : law20_awake = some r) : Fun Tryz.prog 7 [] (vB r) [] := by
  have c1 := @ref20_Same_run
  have e1 := en_ref20_Same
  have c2 := @snap_Sane_run
  have e2 := en_snap_Sane
  have c3 := @snap_Put_run
  have e3 := en_snap_Put
  have c4 := @snap_Find_run
  have e4 := en_snap_Find
  have c5 := @table_Step_run
  have e5 := en_table_Step
  have c6 := @snap_Get_run
  have e6 := en_snap_Get
  refine Fun.of_model (X := fun r => vB r) (O := fun r => []) Tryz.func7 rfl (Nat.le_of_ble_eq_true (by kernel_rfl)) hm ?_
  simp only [Tryz.ntmps7, Tryz.results7, argsO]
  unfold law20_awake
  clear hm
  exact walk

theorem en_ref03_Few : enters Tryz.prog 45 = true := by kernel_rfl
theorem ref03_Few_run {a0 : (List GPair)} {r : Bool} (hm : ref03_Few a0 = some r) : Fun Tryz.prog 45 [(sl cGPair) a0] (vB r) [] := by
  refine Fun.of_model (X := fun r => vB r) (O := fun r => []) Tryz.func45 rfl (Nat.le_of_ble_eq_true (by kernel_rfl)) hm ?_
  simp only [Tryz.ntmps45, Tryz.results45, argsO]
  unfold ref03_Few
  clear hm
  exact walk

theorem en_ref17_Few : enters Tryz.prog 21 = true := by kernel_rfl
theorem ref17_Few_run {a0 : GTable} {r : Bool} (hm : ref17_Few a0 = some r) : Fun Tryz.prog 21 [(ag cGTable) a0] (vB r) [] := by
  have c1 := @ref03_Few_run
  have e1 := en_ref03_Few
  refine Fun.of_model (X := fun r => vB r) (O := fun r => []) Tryz.func21 rfl (Nat.le_of_ble_eq_true (by kernel_rfl)) hm ?_
  simp only [Tryz.ntmps21, Tryz.results21, argsO]
  unfold ref17_Few
  clear hm
  exact walk

theorem en_ref20_Few : enters Tryz.prog 8 = true := by kernel_rfl
theorem ref20_Few_run {a0 : (List GSaved)} {r : Bool} (hm : ref20_Few a0 = some r) : Fun Tryz.prog 8 [(sl cGSaved) a0] (vB r) [] := by
  have c1 := @ref17_Few_run
  have e1 := en_ref17_Few
  refine Fun.of_model (X := fun r => vB r) (O := fun r => []) Tryz.func8 rfl (Nat.le_of_ble_eq_true (by kernel_rfl)) hm ?_
  simp only [Tryz.ntmps8, Tryz.results8, argsO]
  unfold ref20_Few
  clear hm
  exact walk

theorem en_ref05_GetUint : enters Tryz.prog 24 = true := by kernel_rfl
theorem ref05_GetUint_run {a0 : (List Int)} {r : Int × (List Int) × Int} (hm : ref05_GetUint a0 = some r) : Fun Tryz.prog 24 [(sl (cK .u8)) a0] (.tup [vI r.1, (sl (cK .u8)) r.2.1, vI r.2.2]) [] := by
  refine Fun.of_model (X := fun r => .tup [vI r.1, (sl (cK .u8)) r.2.1, vI r.2.2]) (O := fun r => []) Tryz.func24 rfl (Nat.le_of_ble_eq_true (by kernel_rfl)) hm ?_
  simp only [Tryz.ntmps24, Tryz.results24, argsO]
  unfold ref05_GetUint
  clear hm
  exact walk

theorem en_ref05_GetText : enters Tryz.prog 53 = true := by kernel_rfl
theorem ref05_GetText_run {a0 : (List Int)} {r : Str × (List Int) × Int} (hm : ref05_GetText a0 = some r) : Fun Tryz.prog 53 [(sl (cK .u8)) a0] (.tup [vS r.1, (sl (cK .u8)) r.2.1, vI r.2.2]) [] := by
  have c1 := @ref05_GetUint_run
  have e1 := en_ref05_GetUint
  refine Fun.of_model (X := fun r => .tup [vS r.1, (sl (cK .u8)) r.2.1, vI r.2.2]) (O := fun r => []) Tryz.func53 rfl (Nat.le_of_ble_eq_true (by kernel_rfl)) hm ?_
  simp only [Tryz.ntmps53, Tryz.results53, argsO]
  unfold ref05_GetText
  clear hm
  exact walk

theorem en_ref03_Letter : enters Tryz.prog 60 = true := by kernel_rfl
theorem ref03_Letter_run {a0 : Int} {r : Bool} (hm : ref03_Letter a0 = some r) : Fun Tryz.prog 60 [(vK .u8) a0] (vB r) [] := by
  refine Fun.of_model (X := fun r => vB r) (O := fun r => []) Tryz.func60 rfl (Nat.le_of_ble_eq_true (by kernel_rfl)) hm ?_
  simp only [Tryz.ntmps60, Tryz.results60, argsO]
  unfold ref03_Letter
  clear hm
  exact walk

theorem en_ref03_Name : enters Tryz.prog 29 = true := by kernel_rfl
theorem ref03_Name_run {a0 : Str} {r : Bool} (hm : ref03_Name a0 = some r) : Fun Tryz.prog 29 [vS a0] (vB r) [] := by
  have c1 := @ref03_Letter_run
  have e1 := en_ref03_Letter
  refine Fun.of_model (X := fun r => vB r) (O := fun r => []) Tryz.func29 rfl (Nat.le_of_ble_eq_true (by kernel_rfl)) hm ?_
  simp only [Tryz.ntmps29, Tryz.results29, argsO]
  unfold ref03_Name
  clear hm
  exact walk

end Go.Proofs.YtoekflobllmeeaaGreatDoor.AM
