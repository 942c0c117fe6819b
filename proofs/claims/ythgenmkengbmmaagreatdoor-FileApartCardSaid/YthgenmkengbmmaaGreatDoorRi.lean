/- Ri -/
import Derived.Test.YthgenmkengbmmaaGreatDoorGo
import Derived.Test.YthgenmkengbmmaaGreatDoorRf
import Derived.Test.YthgenmkengbmmaaGreatDoorRg
import Derived.Test.YthgenmkengbmmaaGreatDoorRh
set_option linter.all false
namespace Go.Proofs.YthgenmkengbmmaaGreatDoor.AM
open Go Go.Proofs
set_option maxRecDepth 20000
set_option maxHeartbeats 4000000
theorem law11_FileBack_run {a0:(List aI)}{r:Bool} (hm:law11_FileBack a0=some r):Fun Tryz.prog 3 [(sl aC) a0] (vB r) []:=by
 have c1:=@law11_awake_run
 have e1:=mF
 have c2:=@vR
 have e2:=xG
 have c3:=@mJ
 have e3:=nF
 have c4:=@o6
 have e4:=qE
 have c5:=@j0
 have e5:=kM
 have c6:=@oT
 have e6:=qC
 refine Fun.of_model (X:=fun r=>vB r) (O:=fun r=>[]) Tryz.func3 rfl (Nat.le_of_ble_eq_true (by kernel_rfl)) hm ?_
 simp only [Tryz.ntmps3,Tryz.results3,bD]
 unfold law11_FileBack
 clear hm
 exact walk
theorem law11_FileOnce_run {a0:Str}{r:Bool} (hm:law11_FileOnce a0=some r):Fun Tryz.prog 4 [vS a0] (vB r) []:=by
 have c1:=@law11_awake_run
 have e1:=mF
 have c2:=@mJ
 have e2:=nF
 have c3:=@o6
 have e3:=qE
 have c4:=@j0
 have e4:=kM
 have c5:=@oT
 have e5:=qC
 refine Fun.of_model (X:=fun r=>vB r) (O:=fun r=>[]) Tryz.func4 rfl (Nat.le_of_ble_eq_true (by kernel_rfl)) hm ?_
 simp only [Tryz.ntmps4,Tryz.results4,bD]
 unfold law11_FileOnce
 clear hm
 exact walk
theorem law11_FileJoin_run {a0:Str}{a1:Str}{r:Bool} (hm:law11_FileJoin a0 a1=some r):Fun Tryz.prog 5 [vS a0,vS a1] (vB r) []:=by
 have c1:=@law11_awake_run
 have e1:=mF
 have c2:=@o6
 have e2:=qE
 have c3:=@j0
 have e3:=kM
 have c4:=@oT
 have e4:=qC
 refine Fun.of_model (X:=fun r=>vB r) (O:=fun r=>[]) Tryz.func5 rfl (Nat.le_of_ble_eq_true (by kernel_rfl)) hm ?_
 simp only [Tryz.ntmps5,Tryz.results5,bD]
 unfold law11_FileJoin
 clear hm
 exact walk
theorem law11_FileRules_run {a0:(List aI)}{a1:Int}{a2:Int}{a3:Int}{r:Bool} (hm:law11_FileRules a0 a1 a2 a3=some r):Fun Tryz.prog 6 [(sl aC) a0,vI a1,vI a2,vI a3] (vB r) []:=by
 have c1:=@law11_awake_run
 have e1:=mF
 have c2:=@vR
 have e2:=xG
 have c3:=@mJ
 have e3:=nF
 have c4:=@j0
 have e4:=kM
 have c5:=@vW
 have e5:=yM
 have c6:=@A8
 have e6:=Cl
 refine Fun.of_model (X:=fun r=>vB r) (O:=fun r=>[]) Tryz.func6 rfl (Nat.le_of_ble_eq_true (by kernel_rfl)) hm ?_
 simp only [Tryz.ntmps6,Tryz.results6,bD]
 unfold law11_FileRules
 clear hm
 exact walk
theorem law11_FileApart_run {a0:(List aI)}{a1:(List aI)}{r:Bool} (hm:law11_FileApart a0 a1=some r):Fun Tryz.prog 7 [(sl aC) a0,(sl aC) a1] (vB r) []:=by
 have c1:=@law11_awake_run
 have e1:=mF
 have c2:=@vR
 have e2:=xG
 have c3:=@mJ
 have e3:=nF
 have c4:=@j0
 have e4:=kM
 have c5:=@oT
 have e5:=qC
 refine Fun.of_model (X:=fun r=>vB r) (O:=fun r=>[]) Tryz.func7 rfl (Nat.le_of_ble_eq_true (by kernel_rfl)) hm ?_
 simp only [Tryz.ntmps7,Tryz.results7,bD]
 unfold law11_FileApart
 clear hm
 exact walk
end Go.Proofs.YthgenmkengbmmaaGreatDoor.AM
