/- Rh -/
import Derived.Test.YthgenmkengbmmaaGreatDoorGo
import Derived.Test.YthgenmkengbmmaaGreatDoorRf
import Derived.Test.YthgenmkengbmmaaGreatDoorRg
set_option linter.all false
namespace Go.Proofs.YthgenmkengbmmaaGreatDoor.AM
open Go Go.Proofs
set_option maxRecDepth 20000
set_option maxHeartbeats 4000000
theorem Cl:aW Tryz.prog 20=true:=by kernel_rfl
theorem A8 {a0:aR}{r:Str} (hm:mZ a0=some r):Fun Tryz.prog 20 [(ag bA) a0] (vS r) []:=by
 have c1:=@vW
 have e1:=yM
 have c2:=@Cu
 have e2:=Cy
 have c3:=@Hw
 have e3:=IY
 have c4:=@Cm
 have e4:=Dt
 refine Fun.of_model (X:=fun r=>vS r) (O:=fun r=>[]) Tryz.func20 rfl (Nat.le_of_ble_eq_true (by kernel_rfl)) hm ?_
 simp only [Tryz.ntmps20,Tryz.results20,bD]
 unfold mZ
 clear hm
 exact walk
theorem nF:aW Tryz.prog 15=true:=by kernel_rfl
theorem mJ {a0:(List aI)}{r:Str} (hm:fI a0=some r):Fun Tryz.prog 15 [(sl aC) a0] (vS r) []:=by
 have c1:=@pN
 have e1:=qL
 have c2:=@Oa
 have e2:=(by kernel_rfl:aW Tryz.prog 34=true)
 have c3:=@j0
 have e3:=kM
 have c4:=@A8
 have e4:=Cl
 have c5:=@Cu
 have e5:=Cy
 refine Fun.of_model (X:=fun r=>vS r) (O:=fun r=>[]) Tryz.func15 rfl (Nat.le_of_ble_eq_true (by kernel_rfl)) hm ?_
 simp only [Tryz.ntmps15,Tryz.results15,bD]
 unfold fI
 clear hm
 exact walk
theorem mF:aW Tryz.prog 13=true:=by kernel_rfl
theorem law11_awake_run {r:Bool} (hm:law11_awake=some r):Fun Tryz.prog 13 [] (vB r) []:=by
 have c1:=@mJ
 have e1:=nF
 have c2:=@o6
 have e2:=qE
 have c3:=@j0
 have e3:=kM
 refine Fun.of_model (X:=fun r=>vB r) (O:=fun r=>[]) Tryz.func13 rfl (Nat.le_of_ble_eq_true (by kernel_rfl)) hm ?_
 simp only [Tryz.ntmps13,Tryz.results13,bD]
 unfold law11_awake
 clear hm
 exact walk
theorem K1:aW Tryz.prog 53=true:=by kernel_rfl
theorem I9 {a0:cN}{r:Bool} (hm:u6 a0=some r):Fun Tryz.prog 53 [(ag qH) a0] (vB r) []:=by
 refine Fun.of_model (X:=fun r=>vB r) (O:=fun r=>[]) Tryz.func53 rfl (Nat.le_of_ble_eq_true (by kernel_rfl)) hm ?_
 simp only [Tryz.ntmps53,Tryz.results53,bD]
 unfold u6
 clear hm
 exact walk
theorem JE:aW Tryz.prog 54=true:=by kernel_rfl
theorem Ix {a0:(List aQ)}{r:Bool} (hm:vH a0=some r):Fun Tryz.prog 54 [(sl aJ) a0] (vB r) []:=by
 refine Fun.of_model (X:=fun r=>vB r) (O:=fun r=>[]) Tryz.func54 rfl (Nat.le_of_ble_eq_true (by kernel_rfl)) hm ?_
 simp only [Tryz.ntmps54,Tryz.results54,bD]
 unfold vH
 clear hm
 exact walk
theorem Kh:aW Tryz.prog 31=true:=by kernel_rfl
theorem IU {a0:aR}{r:Bool} (hm:rJ a0=some r):Fun Tryz.prog 31 [(ag bA) a0] (vB r) []:=by
 have c1:=@I9
 have e1:=K1
 have c2:=@Ix
 have e2:=JE
 refine Fun.of_model (X:=fun r=>vB r) (O:=fun r=>[]) Tryz.func31 rfl (Nat.le_of_ble_eq_true (by kernel_rfl)) hm ?_
 simp only [Tryz.ntmps31,Tryz.results31,bD]
 unfold rJ
 clear hm
 exact walk
theorem xG:aW Tryz.prog 14=true:=by kernel_rfl
theorem vR {a0:(List aI)}{r:Bool} (hm:mL a0=some r):Fun Tryz.prog 14 [(sl aC) a0] (vB r) []:=by
 have c1:=@IU
 have e1:=Kh
 refine Fun.of_model (X:=fun r=>vB r) (O:=fun r=>[]) Tryz.func14 rfl (Nat.le_of_ble_eq_true (by kernel_rfl)) hm ?_
 simp only [Tryz.ntmps14,Tryz.results14,bD]
 unfold mL
 clear hm
 exact walk
theorem IC:aW Tryz.prog 90=true:=by kernel_rfl
theorem Hd {a0:cN}{a1:cN}{r:Bool} (hm:rN a0 a1=some r):Fun Tryz.prog 90 [(ag qH) a0,(ag qH) a1] (vB r) []:=by
 have q1:=Sc; have p1:=Sl
 refine Fun.of_model (X:=fun r=>vB r) (O:=fun r=>[]) Tryz.func90 rfl (Nat.le_of_ble_eq_true (by kernel_rfl)) hm ?_
 simp only [Tryz.ntmps90,Tryz.results90,bD]
 unfold rN
 clear hm
 exact walk
theorem Iz:aW Tryz.prog 67=true:=by kernel_rfl
theorem Ho {a0:bX}{a1:bX}{r:Bool} (hm:wS a0 a1=some r):Fun Tryz.prog 67 [(ag uX) a0,(ag uX) a1] (vB r) []:=by
 have c1:=@Hd
 have e1:=IC
 refine Fun.of_model (X:=fun r=>vB r) (O:=fun r=>[]) Tryz.func67 rfl (Nat.le_of_ble_eq_true (by kernel_rfl)) hm ?_
 simp only [Tryz.ntmps67,Tryz.results67,bD]
 unfold wS
 clear hm
 exact walk
theorem I5:aW Tryz.prog 68=true:=by kernel_rfl
theorem Hy {a0:(List aQ)}{a1:(List aQ)}{r:Bool} (hm:sP a0 a1=some r):Fun Tryz.prog 68 [(sl aJ) a0,(sl aJ) a1] (vB r) []:=by
 have q1:=TB; have p1:=UH
 refine Fun.of_model (X:=fun r=>vB r) (O:=fun r=>[]) Tryz.func68 rfl (Nat.le_of_ble_eq_true (by kernel_rfl)) hm ?_
 simp only [Tryz.ntmps68,Tryz.results68,bD]
 unfold sP
 clear hm
 exact walk
theorem IG:aW Tryz.prog 40=true:=by kernel_rfl
theorem HP {a0:aR}{a1:aR}{r:Bool} (hm:oX a0 a1=some r):Fun Tryz.prog 40 [(ag bA) a0,(ag bA) a1] (vB r) []:=by
 have c1:=@Ho
 have e1:=Iz
 have c2:=@Hy
 have e2:=I5
 refine Fun.of_model (X:=fun r=>vB r) (O:=fun r=>[]) Tryz.func40 rfl (Nat.le_of_ble_eq_true (by kernel_rfl)) hm ?_
 simp only [Tryz.ntmps40,Tryz.results40,bD]
 unfold oX
 clear hm
 exact walk
theorem qC:aW Tryz.prog 18=true:=by kernel_rfl
theorem oT {a0:(List aI)}{a1:(List aI)}{r:Bool} (hm:lP a0 a1=some r):Fun Tryz.prog 18 [(sl aC) a0,(sl aC) a1] (vB r) []:=by
 have c1:=@HP
 have e1:=IG
 refine Fun.of_model (X:=fun r=>vB r) (O:=fun r=>[]) Tryz.func18 rfl (Nat.le_of_ble_eq_true (by kernel_rfl)) hm ?_
 simp only [Tryz.ntmps18,Tryz.results18,bD]
 unfold lP
 clear hm
 exact walk
end Go.Proofs.YthgenmkengbmmaaGreatDoor.AM
