/- A part of the proof: Ru9. -/
import Derived.Test.YtgkmbhllcekagaaGreatDoorGo
import Derived.Test.YtgkmbhllcekagaaGreatDoorRa
import Derived.Test.YtgkmbhllcekagaaGreatDoorRd
import Derived.Test.YtgkmbhllcekagaaGreatDoorRe
import Derived.Test.YtgkmbhllcekagaaGreatDoorRf
import Derived.Test.YtgkmbhllcekagaaGreatDoorRh
import Derived.Test.YtgkmbhllcekagaaGreatDoorRi
set_option linter.all false
/- The functions run as their models. -/
namespace Go.Proofs.YtgkmbhllcekagaaGreatDoor.AM
open Go Go.Proofs
set_option maxRecDepth 20000
set_option maxHeartbeats 4000000
theorem Ht:aW Tryz.prog 46=true:=by kernel_rfl
theorem Gd {a0:bF}{a1:bF}{r:Bool} (hm:uJ a0 a1=some r):Fun Tryz.prog 46 [(ag fX) a0,(ag fX) a1] (vB r) []:=by
  have c1:=@Gh
  have e1:=Ho
  refine Fun.of_model (X:=fun r=>vB r) (O:=fun r=>[]) Tryz.func46 rfl (Nat.le_of_ble_eq_true (by kernel_rfl)) hm ?_
  simp only [Tryz.ntmps46,Tryz.results46,bA]
  unfold uJ
  clear hm
  exact walk
theorem Hr:aW Tryz.prog 47=true:=by kernel_rfl
theorem FV {a0:(List aJ)}{a1:(List aJ)}{r:Bool} (hm:qV a0 a1=some r):Fun Tryz.prog 47 [(sl aD) a0,(sl aD) a1] (vB r) []:=by
  have q1:=Rd; have p1:=QM
  refine Fun.of_model (X:=fun r=>vB r) (O:=fun r=>[]) Tryz.func47 rfl (Nat.le_of_ble_eq_true (by kernel_rfl)) hm ?_
  simp only [Tryz.ntmps47,Tryz.results47,bA]
  unfold qV
  clear hm
  exact walk
theorem pP:aW Tryz.prog 19=true:=by kernel_rfl
theorem n4 {a0:aZ}{a1:aZ}{r:Bool} (hm:iM a0 a1=some r):Fun Tryz.prog 19 [(ag d9) a0,(ag d9) a1] (vB r) []:=by
  have c1:=@Gd
  have e1:=Ht
  have c2:=@FV
  have e2:=Hr
  refine Fun.of_model (X:=fun r=>vB r) (O:=fun r=>[]) Tryz.func19 rfl (Nat.le_of_ble_eq_true (by kernel_rfl)) hm ?_
  simp only [Tryz.ntmps19,Tryz.results19,bA]
  unfold iM
  clear hm
  exact walk
theorem law10_RuleIs_run {a0:aZ}{a1:(List aK)}{a2:Int}{a3:Str}{r:Bool} (hm:law10_RuleIs a0 a1 a2 a3=some r):Fun Tryz.prog 3 [(ag d9) a0,(sl aF) a1,vI a2,vS a3] (vB r) []:=by
  have c1:=@qT
  have e1:=r9
  have c2:=@n9
  have e2:=pU
  have c3:=@EK
  have e3:=Gf
  have c4:=@jB
  have e4:=jV
  have c5:=@yG
  have e5:=A3
  have c6:=@lH
  have e6:=lW
  have c7:=@s8
  have e7:=tZ
  have c8:=@jS
  have e8:=kJ
  have c9:=@EX
  have e9:=GP
  have c10:=@n4
  have e10:=pP
  have c11:=@law10_awake_run
  have e11:=lL
  have c12:=@pL
  have e12:=rA
  refine Fun.of_model (X:=fun r=>vB r) (O:=fun r=>[]) Tryz.func3 rfl (Nat.le_of_ble_eq_true (by kernel_rfl)) hm ?_
  simp only [Tryz.ntmps3,Tryz.results3,bA]
  unfold law10_RuleIs
  clear hm
  exact walk
theorem law10_RuleBack_run {a0:aZ}{a1:(List aK)}{r:Bool} (hm:law10_RuleBack a0 a1=some r):Fun Tryz.prog 4 [(ag d9) a0,(sl aF) a1] (vB r) []:=by
  have c1:=@qT
  have e1:=r9
  have c2:=@n9
  have e2:=pU
  have c3:=@jB
  have e3:=jV
  have c4:=@jS
  have e4:=kJ
  have c5:=@n4
  have e5:=pP
  have c6:=@xZ
  have e6:=Ag
  have c7:=@law10_awake_run
  have e7:=lL
  have c8:=@pL
  have e8:=rA
  refine Fun.of_model (X:=fun r=>vB r) (O:=fun r=>[]) Tryz.func4 rfl (Nat.le_of_ble_eq_true (by kernel_rfl)) hm ?_
  simp only [Tryz.ntmps4,Tryz.results4,bA]
  unfold law10_RuleBack
  clear hm
  exact walk
theorem law10_RuleParsed_run {a0:(List aK)}{a1:Int}{r:Bool} (hm:law10_RuleParsed a0 a1=some r):Fun Tryz.prog 5 [(sl aF) a0,vI a1] (vB r) []:=by
  have c1:=@qT
  have e1:=r9
  have c2:=@n9
  have e2:=pU
  have c3:=@jB
  have e3:=jV
  have c4:=@jS
  have e4:=kJ
  have c5:=@n4
  have e5:=pP
  have c6:=@xZ
  have e6:=Ag
  have c7:=@law10_awake_run
  have e7:=lL
  refine Fun.of_model (X:=fun r=>vB r) (O:=fun r=>[]) Tryz.func5 rfl (Nat.le_of_ble_eq_true (by kernel_rfl)) hm ?_
  simp only [Tryz.ntmps5,Tryz.results5,bA]
  unfold law10_RuleParsed
  clear hm
  exact walk
theorem law10_RuleNames_run {a0:aZ}{a1:Int}{a2:Str}{r:Bool} (hm:law10_RuleNames a0 a1 a2=some r):Fun Tryz.prog 6 [(ag d9) a0,vI a1,vS a2] (vB r) []:=by
  have c1:=@jB
  have e1:=jV
  have c2:=@lH
  have e2:=lW
  have c3:=@jS
  have e3:=kJ
  have c4:=@law10_awake_run
  have e4:=lL
  have c5:=@pL
  have e5:=rA
  refine Fun.of_model (X:=fun r=>vB r) (O:=fun r=>[]) Tryz.func6 rfl (Nat.le_of_ble_eq_true (by kernel_rfl)) hm ?_
  simp only [Tryz.ntmps6,Tryz.results6,bA]
  unfold law10_RuleNames
  clear hm
  exact walk
theorem law10_RuleApart_run {a0:aZ}{a1:aZ}{a2:Int}{r:Bool} (hm:law10_RuleApart a0 a1 a2=some r):Fun Tryz.prog 7 [(ag d9) a0,(ag d9) a1,vI a2] (vB r) []:=by
  have c1:=@jB
  have e1:=jV
  have c2:=@jS
  have e2:=kJ
  have c3:=@n4
  have e3:=pP
  have c4:=@law10_awake_run
  have e4:=lL
  have c5:=@pL
  have e5:=rA
  refine Fun.of_model (X:=fun r=>vB r) (O:=fun r=>[]) Tryz.func7 rfl (Nat.le_of_ble_eq_true (by kernel_rfl)) hm ?_
  simp only [Tryz.ntmps7,Tryz.results7,bA]
  unfold law10_RuleApart
  clear hm
  exact walk
end Go.Proofs.YtgkmbhllcekagaaGreatDoor.AM
