/- A part of the proof: Ru5. -/
import Derived.Test.YtgkmbhllcekagaaGreatDoorGo
import Derived.Test.YtgkmbhllcekagaaGreatDoorRa
import Derived.Test.YtgkmbhllcekagaaGreatDoorRc
import Derived.Test.YtgkmbhllcekagaaGreatDoorRd
import Derived.Test.YtgkmbhllcekagaaGreatDoorRe
set_option linter.all false
/- The functions run as their models. -/
namespace Go.Proofs.YtgkmbhllcekagaaGreatDoor.AM
open Go Go.Proofs
set_option maxRecDepth 20000
set_option maxHeartbeats 4000000
theorem Jk:aW Tryz.prog 41=true:=by kernel_rfl
theorem HK {a0:Int}{r:Str} (hm:nM a0=some r):Fun Tryz.prog 41 [vI a0] (vS r) []:=by
  have c1:=@vR
  have e1:=xY
  have c2:=@vX
  have e2:=(by kernel_rfl:aW Tryz.prog 72=true)
  have gr1:=Lg
  refine Fun.of_model (X:=fun r=>vS r) (O:=fun r=>[]) Tryz.func41 rfl (Nat.le_of_ble_eq_true (by kernel_rfl)) hm ?_
  simp only [Tryz.ntmps41,Tryz.results41,bA]
  unfold nM
  clear hm
  exact walk
theorem kJ:aW Tryz.prog 17=true:=by kernel_rfl
theorem jS {a0:aZ}{r:Str} (hm:dQ a0=some r):Fun Tryz.prog 17 [(ag d9) a0] (vS r) []:=by
  have c1:=@jB
  have e1:=jV
  have c2:=@Gn
  have e2:=Hx
  have c3:=@HK
  have e3:=Jk
  have c4:=@Bc
  have e4:=BD
  refine Fun.of_model (X:=fun r=>vS r) (O:=fun r=>[]) Tryz.func17 rfl (Nat.le_of_ble_eq_true (by kernel_rfl)) hm ?_
  simp only [Tryz.ntmps17,Tryz.results17,bA]
  unfold dQ
  clear hm
  exact walk
theorem lL:aW Tryz.prog 8=true:=by kernel_rfl
theorem law10_awake_run {r:Bool} (hm:law10_awake=some r):Fun Tryz.prog 8 [] (vB r) []:=by
  have c1:=@n9
  have e1:=pU
  have c2:=@jB
  have e2:=jV
  have c3:=@lH
  have e3:=lW
  have c4:=@jS
  have e4:=kJ
  have c5:=@xZ
  have e5:=Ag
  refine Fun.of_model (X:=fun r=>vB r) (O:=fun r=>[]) Tryz.func8 rfl (Nat.le_of_ble_eq_true (by kernel_rfl)) hm ?_
  simp only [Tryz.ntmps8,Tryz.results8,bA]
  unfold law10_awake
  clear hm
  exact walk
theorem Jv:aW Tryz.prog 21=true:=by kernel_rfl
theorem HH {a0:bM}{r:Bool} (hm:tG a0=some r):Fun Tryz.prog 21 [(ag kX) a0] (vB r) []:=by
  refine Fun.of_model (X:=fun r=>vB r) (O:=fun r=>[]) Tryz.func21 rfl (Nat.le_of_ble_eq_true (by kernel_rfl)) hm ?_
  simp only [Tryz.ntmps21,Tryz.results21,bA]
  unfold tG
  clear hm
  exact walk
theorem Io:aW Tryz.prog 22=true:=by kernel_rfl
theorem Hw {a0:(List aJ)}{r:Bool} (hm:tE a0=some r):Fun Tryz.prog 22 [(sl aD) a0] (vB r) []:=by
  refine Fun.of_model (X:=fun r=>vB r) (O:=fun r=>[]) Tryz.func22 rfl (Nat.le_of_ble_eq_true (by kernel_rfl)) hm ?_
  simp only [Tryz.ntmps22,Tryz.results22,bA]
  unfold tE
  clear hm
  exact walk
theorem rA:aW Tryz.prog 9=true:=by kernel_rfl
theorem pL {a0:aZ}{r:Bool} (hm:kV a0=some r):Fun Tryz.prog 9 [(ag d9) a0] (vB r) []:=by
  have c1:=@HH
  have e1:=Jv
  have c2:=@Hw
  have e2:=Io
  refine Fun.of_model (X:=fun r=>vB r) (O:=fun r=>[]) Tryz.func9 rfl (Nat.le_of_ble_eq_true (by kernel_rfl)) hm ?_
  simp only [Tryz.ntmps9,Tryz.results9,bA]
  unfold kV
  clear hm
  exact walk
theorem r9:aW Tryz.prog 10=true:=by kernel_rfl
theorem qT {a0:(List aK)}{r:Bool} (hm:kY a0=some r):Fun Tryz.prog 10 [(sl aF) a0] (vB r) []:=by
  refine Fun.of_model (X:=fun r=>vB r) (O:=fun r=>[]) Tryz.func10 rfl (Nat.le_of_ble_eq_true (by kernel_rfl)) hm ?_
  simp only [Tryz.ntmps10,Tryz.results10,bA]
  unfold kY
  clear hm
  exact walk
theorem eH:aW Tryz.prog 24=true:=by kernel_rfl
theorem dY {a0:(List aK)}{a1:Int}{a2:Int}{a3:Str}{r:Int} (hm:bZ a0 a1 a2 a3=some r):Fun Tryz.prog 24 [(sl aF) a0,vI a1,vI a2,vS a3] (vI r) []:=by
  refine Fun.of_model (X:=fun r=>vI r) (O:=fun r=>[]) Tryz.func24 rfl (Nat.le_of_ble_eq_true (by kernel_rfl)) hm ?_
  simp only [Tryz.ntmps24,Tryz.results24,bA]
  unfold bZ
  clear hm
  exact walk
theorem fE:aW Tryz.prog 25=true:=by kernel_rfl
theorem eP {a0:(List aK)}{a1:Int}{r:Int} (hm:b5 a0 a1=some r):Fun Tryz.prog 25 [(sl aF) a0,vI a1] (vI r) []:=by
  refine Fun.of_model (X:=fun r=>vI r) (O:=fun r=>[]) Tryz.func25 rfl (Nat.le_of_ble_eq_true (by kernel_rfl)) hm ?_
  simp only [Tryz.ntmps25,Tryz.results25,bA]
  unfold b5
  clear hm
  exact walk
theorem EU:aW Tryz.prog 67=true:=by kernel_rfl
theorem D4 {a0:Int}{r:Bool} (hm:nV a0=some r):Fun Tryz.prog 67 [(vK .u8) a0] (vB r) []:=by
  refine Fun.of_model (X:=fun r=>vB r) (O:=fun r=>[]) Tryz.func67 rfl (Nat.le_of_ble_eq_true (by kernel_rfl)) hm ?_
  simp only [Tryz.ntmps67,Tryz.results67,bA]
  unfold nV
  clear hm
  exact walk
theorem mO:aW Tryz.prog 35=true:=by kernel_rfl
theorem lR {a0:Str}{r:Bool} (hm:gB a0=some r):Fun Tryz.prog 35 [vS a0] (vB r) []:=by
  have c1:=@D4
  have e1:=EU
  refine Fun.of_model (X:=fun r=>vB r) (O:=fun r=>[]) Tryz.func35 rfl (Nat.le_of_ble_eq_true (by kernel_rfl)) hm ?_
  simp only [Tryz.ntmps35,Tryz.results35,bA]
  unfold gB
  clear hm
  exact walk
theorem tV:aW Tryz.prog 26=true:=by kernel_rfl
theorem sK {a0:(List aK)}{a1:Int}{r:Int} (hm:lZ a0 a1=some r):Fun Tryz.prog 26 [(sl aF) a0,vI a1] (vI r) []:=by
  have c1:=@dY
  have e1:=eH
  have c2:=@lR
  have e2:=mO
  refine Fun.of_model (X:=fun r=>vI r) (O:=fun r=>[]) Tryz.func26 rfl (Nat.le_of_ble_eq_true (by kernel_rfl)) hm ?_
  simp only [Tryz.ntmps26,Tryz.results26,bA]
  unfold lZ
  clear hm
  exact walk
end Go.Proofs.YtgkmbhllcekagaaGreatDoor.AM
