/- Rh -/
import Derived.Test.YthgenmkengbmmaaGreatDoorCGo
import Derived.Test.YthgenmkengbmmaaGreatDoorCRf
import Derived.Test.YthgenmkengbmmaaGreatDoorCRg
set_option linter.all false
namespace Go.Proofs.YthgenmkengbmmaaGreatDoor.AM
open Go Go.Proofs
set_option maxRecDepth 20000
set_option maxHeartbeats 4000000
theorem Kc:aU Tryz.prog 20=true:=by kernel_rfl
theorem Jo {a0:a6}{r:Str} (hm:t8 a0=some r):Fun Tryz.prog 20 [(ag bL) a0] (vS r) []:=by
 have c1:=@Dj
 have e1:=Et
 have c2:=@KI
 have e2:=K4
 have c3:=@Zq
 have e3:=KO
 have c4:=@DH
 have e4:=Ex
 refine Fun.of_model (X:=fun r=>vS r) (O:=fun r=>[]) Tryz.func20 rfl (Nat.le_of_ble_eq_true (by kernel_rfl)) hm ?_
 simp only [Tryz.ntmps20,Tryz.results20,bF]
 unfold t8
 clear hm
 exact walk
theorem MD:aU Tryz.prog 53=true:=by kernel_rfl
theorem Kn {a0:cT}{r:Bool} (hm:wU a0=some r):Fun Tryz.prog 53 [(ag rI) a0] (vB r) []:=by
 refine Fun.of_model (X:=fun r=>vB r) (O:=fun r=>[]) Tryz.func53 rfl (Nat.le_of_ble_eq_true (by kernel_rfl)) hm ?_
 simp only [Tryz.ntmps53,Tryz.results53,bF]
 unfold wU
 clear hm
 exact walk
theorem LV:aU Tryz.prog 54=true:=by kernel_rfl
theorem KL {a0:(List aY)}{r:Bool} (hm:vZ a0=some r):Fun Tryz.prog 54 [(sl aK) a0] (vB r) []:=by
 refine Fun.of_model (X:=fun r=>vB r) (O:=fun r=>[]) Tryz.func54 rfl (Nat.le_of_ble_eq_true (by kernel_rfl)) hm ?_
 simp only [Tryz.ntmps54,Tryz.results54,bF]
 unfold vZ
 clear hm
 exact walk
theorem LY:aU Tryz.prog 31=true:=by kernel_rfl
theorem Kb {a0:a6}{r:Bool} (hm:sL a0=some r):Fun Tryz.prog 31 [(ag bL) a0] (vB r) []:=by
 have c1:=@Kn
 have e1:=MD
 have c2:=@KL
 have e2:=LV
 refine Fun.of_model (X:=fun r=>vB r) (O:=fun r=>[]) Tryz.func31 rfl (Nat.le_of_ble_eq_true (by kernel_rfl)) hm ?_
 simp only [Tryz.ntmps31,Tryz.results31,bF]
 unfold sL
 clear hm
 exact walk
theorem pJ:aU Tryz.prog 14=true:=by kernel_rfl
theorem n4 {a0:(List aI)}{r:Bool} (hm:fW a0=some r):Fun Tryz.prog 14 [(sl aD) a0] (vB r) []:=by
 have c1:=@Kb
 have e1:=LY
 refine Fun.of_model (X:=fun r=>vB r) (O:=fun r=>[]) Tryz.func14 rfl (Nat.le_of_ble_eq_true (by kernel_rfl)) hm ?_
 simp only [Tryz.ntmps14,Tryz.results14,bF]
 unfold fW
 clear hm
 exact walk
end Go.Proofs.YthgenmkengbmmaaGreatDoor.AM
