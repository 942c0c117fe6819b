/- Rj -/
import Derived.Test.YthgenmkengbmmaaGreatDoorCGo
import Derived.Test.YthgenmkengbmmaaGreatDoorCRf
import Derived.Test.YthgenmkengbmmaaGreatDoorCRi
set_option linter.all false
namespace Go.Proofs.YthgenmkengbmmaaGreatDoor.AM
open Go Go.Proofs
set_option maxRecDepth 20000
set_option maxHeartbeats 4000000
theorem mY:aU Tryz.prog 21=true:=by kernel_rfl
theorem law12_awake_run {r:Bool} (hm:law12_awake=some r):Fun Tryz.prog 21 [] (vB r) []:=by
 have c1:=@IH
 have e1:=Kr
 have c2:=@mV
 have e2:=n7
 have c3:=@nY
 have e3:=oS
 have c4:=@kW
 have e4:=lN
 have c5:=@mX
 have e5:=n8
 refine Fun.of_model (X:=fun r=>vB r) (O:=fun r=>[]) Tryz.func21 rfl (Nat.le_of_ble_eq_true (by kernel_rfl)) hm ?_
 simp only [Tryz.ntmps21,Tryz.results21,bF]
 unfold law12_awake
 clear hm
 exact walk
end Go.Proofs.YthgenmkengbmmaaGreatDoor.AM
