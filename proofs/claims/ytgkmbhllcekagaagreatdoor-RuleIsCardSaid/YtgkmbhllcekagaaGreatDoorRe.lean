/- A part of the proof: Ru4. -/
import Derived.Test.YtgkmbhllcekagaaGreatDoorGo
import Derived.Test.YtgkmbhllcekagaaGreatDoorRa
import Derived.Test.YtgkmbhllcekagaaGreatDoorRb
import Derived.Test.YtgkmbhllcekagaaGreatDoorRc
import Derived.Test.YtgkmbhllcekagaaGreatDoorRd
set_option linter.all false
/- The functions run as their models. -/
namespace Go.Proofs.YtgkmbhllcekagaaGreatDoor.AM
open Go Go.Proofs
set_option maxRecDepth 20000
set_option maxHeartbeats 4000000
theorem yV:aW Tryz.prog 23=true:=by kernel_rfl
theorem xQ {a0:a6}{r:Int × a6} (hm:gO a0=some r):d6 Tryz.prog 23 [.ptr 0 0] [.box [sl aF a0.l,vI a0.i,vS a0.r.Name,vS a0.r.E.S.Name,sl aB a0.r.E.S.M,vI a0.r.E.Op,vI a0.r.E.V,vI a0.r.For,vI a0.r.Keep,sl aD a0.r.Labels]] (vI r.1) [.box [sl aF r.2.l,vI r.2.i,vS r.2.r.Name,vS r.2.r.E.S.Name,sl aB r.2.r.E.S.M,vI r.2.r.E.Op,vI r.2.r.E.V,vI r.2.r.For,vI r.2.r.Keep,sl aD r.2.r.Labels]]:=by
  have c1:=@kZ
  have e1:=lN
  have c2:=@fV
  have e2:=gK
  have c3:=@fL
  have e3:=f8
  have c4:=@vH
  have e4:=wF
  have c5:=@wE
  have e5:=wG
  have c6:=@u7
  have e6:=wH
  have c7:=@jO
  have e7:=kF
  have c8:=@GG
  have e8:=Hz
  refine d6.of_model (oin:=[.box [sl aF a0.l,vI a0.i,vS a0.r.Name,vS a0.r.E.S.Name,sl aB a0.r.E.S.M,vI a0.r.E.Op,vI a0.r.E.V,vI a0.r.For,vI a0.r.Keep,sl aD a0.r.Labels]]) (X:=fun r=>vI r.1) (O:=fun r=>[.box [sl aF r.2.l,vI r.2.i,vS r.2.r.Name,vS r.2.r.E.S.Name,sl aB r.2.r.E.S.M,vI r.2.r.E.Op,vI r.2.r.E.V,vI r.2.r.For,vI r.2.r.Keep,sl aD r.2.r.Labels]]) Tryz.func23 rfl (Nat.le_of_ble_eq_true (by kernel_rfl)) hm (n0:=1) rfl ?_
  simp only [Tryz.ntmps23,Tryz.results23,bA]
  unfold gO
  clear hm
  exact walk
theorem pU:aW Tryz.prog 11=true:=by kernel_rfl
theorem n9 {a0:(List aK)}{a1:Int}{r:aZ × Int × Int} (hm:dW a0 a1=some r):Fun Tryz.prog 11 [(sl aF) a0,vI a1] (.tup [(ag d9) r.1,vI r.2.1,vI r.2.2]) []:=by
  have c1:=@xQ
  have e1:=yV
  refine Fun.of_model (X:=fun r=>.tup [(ag d9) r.1,vI r.2.1,vI r.2.2]) (O:=fun r=>[]) Tryz.func11 rfl (Nat.le_of_ble_eq_true (by kernel_rfl)) hm ?_
  simp only [Tryz.ntmps11,Tryz.results11,bA]
  unfold dW
  clear hm
  exact walk
theorem Dh:aW Tryz.prog 64=true:=by kernel_rfl
theorem BQ {a0:bM}{r:Bool} (hm:r5 a0=some r):Fun Tryz.prog 64 [(ag kX) a0] (vB r) []:=by
  have c1:=@jO
  have e1:=kF
  refine Fun.of_model (X:=fun r=>vB r) (O:=fun r=>[]) Tryz.func64 rfl (Nat.le_of_ble_eq_true (by kernel_rfl)) hm ?_
  simp only [Tryz.ntmps64,Tryz.results64,bA]
  unfold r5
  clear hm
  exact walk
theorem Br:aW Tryz.prog 31=true:=by kernel_rfl
theorem Bn {a0:bF}{r:Bool} (hm:qE a0=some r):Fun Tryz.prog 31 [(ag fX) a0] (vB r) []:=by
  have c1:=@BQ
  have e1:=Dh
  have c2:=@Bm
  have e2:=B7
  have c3:=@vJ
  have e3:=xN
  refine Fun.of_model (X:=fun r=>vB r) (O:=fun r=>[]) Tryz.func31 rfl (Nat.le_of_ble_eq_true (by kernel_rfl)) hm ?_
  simp only [Tryz.ntmps31,Tryz.results31,bA]
  unfold qE
  clear hm
  exact walk
theorem HE:aW Tryz.prog 33=true:=by kernel_rfl
theorem FE {a0:(List aJ)}{r:Bool} (hm:q5 a0=some r):Fun Tryz.prog 33 [(sl aD) a0] (vB r) []:=by
  have c1:=@jO
  have e1:=kF
  refine Fun.of_model (X:=fun r=>vB r) (O:=fun r=>[]) Tryz.func33 rfl (Nat.le_of_ble_eq_true (by kernel_rfl)) hm ?_
  simp only [Tryz.ntmps33,Tryz.results33,bA]
  unfold q5
  clear hm
  exact walk
theorem jV:aW Tryz.prog 13=true:=by kernel_rfl
theorem jB {a0:aZ}{r:Bool} (hm:eM a0=some r):Fun Tryz.prog 13 [(ag d9) a0] (vB r) []:=by
  have c1:=@jO
  have e1:=kF
  have c2:=@Bn
  have e2:=Br
  have c3:=@vR
  have e3:=xY
  have c4:=@FE
  have e4:=HE
  have c5:=@t6
  have e5:=vY
  refine Fun.of_model (X:=fun r=>vB r) (O:=fun r=>[]) Tryz.func13 rfl (Nat.le_of_ble_eq_true (by kernel_rfl)) hm ?_
  simp only [Tryz.ntmps13,Tryz.results13,bA]
  unfold eM
  clear hm
  exact walk
theorem BD:aW Tryz.prog 42=true:=by kernel_rfl
theorem Bc {a0:Str}{r:Str} (hm:jN a0=some r):Fun Tryz.prog 42 [vS a0] (vS r) []:=by
  refine Fun.of_model (X:=fun r=>vS r) (O:=fun r=>[]) Tryz.func42 rfl (Nat.le_of_ble_eq_true (by kernel_rfl)) hm ?_
  simp only [Tryz.ntmps42,Tryz.results42,bA]
  unfold jN
  clear hm
  exact walk
theorem Jj:aW Tryz.prog 70=true:=by kernel_rfl
theorem HM {a0:bM}{r:Str} (hm:tA a0=some r):Fun Tryz.prog 70 [(ag kX) a0] (vS r) []:=by
  have c1:=@Bc
  have e1:=BD
  have c2:=@BQ
  have e2:=Dh
  refine Fun.of_model (X:=fun r=>vS r) (O:=fun r=>[]) Tryz.func70 rfl (Nat.le_of_ble_eq_true (by kernel_rfl)) hm ?_
  simp only [Tryz.ntmps70,Tryz.results70,bA]
  unfold tA
  clear hm
  exact walk
theorem wC:aW Tryz.prog 113=true:=by kernel_rfl
theorem uF {a0:Str}{a1:Int}{r:Str} (hm:gN a0 a1=some r):Fun Tryz.prog 113 [vS a0,(vK .u8) a1] (vS r) []:=by
  refine Fun.of_model (X:=fun r=>vS r) (O:=fun r=>[]) Tryz.func113 rfl (Nat.le_of_ble_eq_true (by kernel_rfl)) hm ?_
  simp only [Tryz.ntmps113,Tryz.results113,bA]
  unfold gN
  clear hm
  exact walk
theorem Af:aW Tryz.prog 96=true:=by kernel_rfl
theorem zH {a0:Str}{a1:Str}{r:Str} (hm:fP a0 a1=some r):Fun Tryz.prog 96 [vS a0,vS a1] (vS r) []:=by
  have c1:=@uF
  have e1:=wC
  refine Fun.of_model (X:=fun r=>vS r) (O:=fun r=>[]) Tryz.func96 rfl (Nat.le_of_ble_eq_true (by kernel_rfl)) hm ?_
  simp only [Tryz.ntmps96,Tryz.results96,bA]
  unfold fP
  clear hm
  exact walk
theorem IZ:aW Tryz.prog 71=true:=by kernel_rfl
theorem Hs {a0:Int}{r:Str} (hm:tI a0=some r):Fun Tryz.prog 71 [vI a0] (vS r) []:=by
  have c1:=@vJ
  have e1:=xN
  have c2:=@vX
  have e2:=(by kernel_rfl:aW Tryz.prog 72=true)
  have c3:=@zH
  have e3:=Af
  refine Fun.of_model (X:=fun r=>vS r) (O:=fun r=>[]) Tryz.func71 rfl (Nat.le_of_ble_eq_true (by kernel_rfl)) hm ?_
  simp only [Tryz.ntmps71,Tryz.results71,bA]
  unfold tI
  clear hm
  exact walk
theorem Hx:aW Tryz.prog 40=true:=by kernel_rfl
theorem Gn {a0:bF}{r:Str} (hm:rR a0=some r):Fun Tryz.prog 40 [(ag fX) a0] (vS r) []:=by
  have c1:=@Bn
  have e1:=Br
  have c2:=@HM
  have e2:=Jj
  have c3:=@Hs
  have e3:=IZ
  have gr1:=LE
  refine Fun.of_model (X:=fun r=>vS r) (O:=fun r=>[]) Tryz.func40 rfl (Nat.le_of_ble_eq_true (by kernel_rfl)) hm ?_
  simp only [Tryz.ntmps40,Tryz.results40,bA]
  unfold rR
  clear hm
  exact walk
end Go.Proofs.YtgkmbhllcekagaaGreatDoor.AM
