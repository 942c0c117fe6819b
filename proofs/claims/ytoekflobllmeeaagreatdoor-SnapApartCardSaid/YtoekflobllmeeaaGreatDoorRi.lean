/- A part of the proof: Ru8. -/
import Derived.Test.YtoekflobllmeeaaGreatDoorGo
import Derived.Test.YtoekflobllmeeaaGreatDoorRc
import Derived.Test.YtoekflobllmeeaaGreatDoorRd
import Derived.Test.YtoekflobllmeeaaGreatDoorRf
set_option linter.all false
/- The functions run as their models. -/
namespace Go.Proofs.YtoekflobllmeeaaGreatDoor.AM
open Go Go.Proofs
set_option maxRecDepth 20000
set_option maxHeartbeats 4000000

theorem en_law20_within : enters Tryz.prog 19 = true := by kernel_rfl
theorem law20_within_run {a0 : (List GSaved)} {r : Bool} (hm : law20_within a0 = some r) : Fun Tryz.prog 19 [(sl cGSaved) a0] (vB r) [] := by
  refine Fun.of_model (X := fun r => vB r) (O := fun r => []) Tryz.func19 rfl (Nat.le_of_ble_eq_true (by kernel_rfl)) hm ?_
  simp only [Tryz.ntmps19, Tryz.results19, argsO]
  unfold law20_within
  clear hm
  exact walk

theorem en_law20_SnapApart : enters Tryz.prog 6 = true := by kernel_rfl
theorem law20_SnapApart_run {a0 : (List GSaved)} {a1 : (List GSaved)} {r : Bool} (hm : law20_SnapApart a0 a1 = some r) : Fun Tryz.prog 6 [(sl cGSaved) a0, (sl cGSaved) a1] (vB r) [] := by
  have c1 := @ref20_Same_run
  have e1 := en_ref20_Same
  have c2 := @snap_Sane_run
  have e2 := en_snap_Sane
  have c3 := @snap_Put_run
  have e3 := en_snap_Put
  have c4 := @law20_within_run
  have e4 := en_law20_within
  have c5 := @law20_awake_run
  have e5 := en_law20_awake
  have c6 := @ref20_Few_run
  have e6 := en_ref20_Few
  refine Fun.of_model (X := fun r => vB r) (O := fun r => []) Tryz.func6 rfl (Nat.le_of_ble_eq_true (by kernel_rfl)) hm ?_
  simp only [Tryz.ntmps6, Tryz.results6, argsO]
  unfold law20_SnapApart
  clear hm
  exact walk

end Go.Proofs.YtoekflobllmeeaaGreatDoor.AM
