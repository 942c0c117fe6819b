/- Rl -/
import Derived.Test.YthgenmkengbmmaaGreatDoorCGo
import Derived.Test.YthgenmkengbmmaaGreatDoorCRg
import Derived.Test.YthgenmkengbmmaaGreatDoorCRh
import Derived.Test.YthgenmkengbmmaaGreatDoorCRi
import Derived.Test.YthgenmkengbmmaaGreatDoorCRj
import Derived.Test.YthgenmkengbmmaaGreatDoorCRk
set_option linter.all false
namespace Go.Proofs.YthgenmkengbmmaaGreatDoor.AM
open Go Go.Proofs
set_option maxRecDepth 20000
set_option maxHeartbeats 4000000
theorem qG:aU Tryz.prog 26=true:=by kernel_rfl
theorem pD {a0:(List bE)}{a1:(List bE)}{r:Bool} (hm:eF a0 a1=some r):Fun Tryz.prog 26 [(sl a7) a0,(sl a7) a1] (vB r) []:=by
 have q1:=Lt; have p1:=LB
 refine Fun.of_model (X:=fun r=>vB r) (O:=fun r=>[]) Tryz.func26 rfl (Nat.le_of_ble_eq_true (by kernel_rfl)) hm ?_
 simp only [Tryz.ntmps26,Tryz.results26,bF]
 unfold eF
 clear hm
 exact walk
end Go.Proofs.YthgenmkengbmmaaGreatDoor.AM
