/- A part of the proof: Ru0. -/
import Derived.Test.YtgkmbhllcekagaaGreatDoorGo
set_option linter.all false
/- The functions run as their models. -/
namespace Go.Proofs.YtgkmbhllcekagaaGreatDoor.AM
open Go Go.Proofs
set_option maxRecDepth 20000
set_option maxHeartbeats 4000000
theorem Jr:aW Tryz.prog 79=true:=by kernel_rfl
theorem Hu {a0:Int}{r:Bool} (hm:s7 a0=some r):Fun Tryz.prog 79 [(vK .u8) a0] (vB r) []:=by
  refine Fun.of_model (X:=fun r=>vB r) (O:=fun r=>[]) Tryz.func79 rfl (Nat.le_of_ble_eq_true (by kernel_rfl)) hm ?_
  simp only [Tryz.ntmps79,Tryz.results79,bA]
  unfold s7
  clear hm
  exact walk
theorem K1:aW Tryz.prog 48=true:=by kernel_rfl
theorem H5 {a0:Str}{a1:Int}{r:Int} (hm:eY a0 a1=some r):Fun Tryz.prog 48 [vS a0,vI a1] (vI r) []:=by
  have c1:=@Hu
  have e1:=Jr
  refine Fun.of_model (X:=fun r=>vI r) (O:=fun r=>[]) Tryz.func48 rfl (Nat.le_of_ble_eq_true (by kernel_rfl)) hm ?_
  simp only [Tryz.ntmps48,Tryz.results48,bA]
  unfold eY
  clear hm
  exact walk
theorem Ba:aW Tryz.prog 80=true:=by kernel_rfl
theorem zM {a0:Int}{r:Bool} (hm:oM a0=some r):Fun Tryz.prog 80 [(vK .u8) a0] (vB r) []:=by
  refine Fun.of_model (X:=fun r=>vB r) (O:=fun r=>[]) Tryz.func80 rfl (Nat.le_of_ble_eq_true (by kernel_rfl)) hm ?_
  simp only [Tryz.ntmps80,Tryz.results80,bA]
  unfold oM
  clear hm
  exact walk
theorem BE:aW Tryz.prog 81=true:=by kernel_rfl
theorem A6 {a0:Int}{r:Bool} (hm:nK a0=some r):Fun Tryz.prog 81 [(vK .u8) a0] (vB r) []:=by
  refine Fun.of_model (X:=fun r=>vB r) (O:=fun r=>[]) Tryz.func81 rfl (Nat.le_of_ble_eq_true (by kernel_rfl)) hm ?_
  simp only [Tryz.ntmps81,Tryz.results81,bA]
  unfold nK
  clear hm
  exact walk
theorem HS:aW Tryz.prog 49=true:=by kernel_rfl
theorem F1 {a0:Str}{r:Int × Int} (hm:cZ a0=some r):Fun Tryz.prog 49 [vS a0] (.tup [vI r.1,vI r.2]) []:=by
  have c1:=@zM
  have e1:=Ba
  have c2:=@A6
  have e2:=BE
  have c3:=@y7
  have e3:=(by kernel_rfl:aW Tryz.prog 82=true)
  refine Fun.of_model (X:=fun r=>.tup [vI r.1,vI r.2]) (O:=fun r=>[]) Tryz.func49 rfl (Nat.le_of_ble_eq_true (by kernel_rfl)) hm ?_
  simp only [Tryz.ntmps49,Tryz.results49,bA]
  unfold cZ
  clear hm
  exact walk
theorem KK:aW Tryz.prog 50=true:=by kernel_rfl
theorem Ju {a0:Str}{r:Str × Int × Int} (hm:sI a0=some r):Fun Tryz.prog 50 [vS a0] (.tup [vS r.1,vI r.2.1,vI r.2.2]) []:=by
  refine Fun.of_model (X:=fun r=>.tup [vS r.1,vI r.2.1,vI r.2.2]) (O:=fun r=>[]) Tryz.func50 rfl (Nat.le_of_ble_eq_true (by kernel_rfl)) hm ?_
  simp only [Tryz.ntmps50,Tryz.results50,bA]
  unfold sI
  clear hm
  exact walk
theorem MX:aW Tryz.prog 51=true:=by kernel_rfl
theorem KR {a0:Str}{a1:Bool}{r:Int} (hm:mX a0 a1=some r):Fun Tryz.prog 51 [vS a0,vB a1] (vI r) []:=by
  have c1:=@zM
  have e1:=Ba
  have c2:=@A6
  have e2:=BE
  refine Fun.of_model (X:=fun r=>vI r) (O:=fun r=>[]) Tryz.func51 rfl (Nat.le_of_ble_eq_true (by kernel_rfl)) hm ?_
  simp only [Tryz.ntmps51,Tryz.results51,bA]
  unfold mX
  clear hm
  exact walk
theorem Ag:aW Tryz.prog 20=true:=by kernel_rfl
theorem xZ {a0:Str}{r:(List aK) × Int × Int} (hm:lK a0=some r):Fun Tryz.prog 20 [vS a0] (.tup [so 0 aF r.1,vI r.2.1,vI r.2.2]) [tk r.1.length 3 53]:=by
  have c1:=@H5
  have e1:=K1
  have c2:=@F1
  have e2:=HS
  have c3:=@Ju
  have e3:=KK
  have c4:=@KR
  have e4:=MX
  refine Fun.of_model (X:=fun r=>.tup [so 0 aF r.1,vI r.2.1,vI r.2.2]) (O:=fun r=>[tk r.1.length 3 53]) Tryz.func20 rfl (Nat.le_of_ble_eq_true (by kernel_rfl)) hm ?_
  simp only [Tryz.ntmps20,Tryz.results20,bA]
  unfold lK
  clear hm
  exact walk
theorem gK:aW Tryz.prog 53=true:=by kernel_rfl
theorem fV {a0:Int}{a1:a6}{r:Bool} (hm:dE a0 a1=some r):d6 Tryz.prog 53 [.ptr 0 0,vI a0] [.box [sl aF a1.l,vI a1.i,vS a1.r.Name,vS a1.r.E.S.Name,sl aB a1.r.E.S.M,vI a1.r.E.Op,vI a1.r.E.V,vI a1.r.For,vI a1.r.Keep,sl aD a1.r.Labels]] (vB r) [.box [sl aF a1.l,vI a1.i,vS a1.r.Name,vS a1.r.E.S.Name,sl aB a1.r.E.S.M,vI a1.r.E.Op,vI a1.r.E.V,vI a1.r.For,vI a1.r.Keep,sl aD a1.r.Labels]]:=by
  refine d6.of_model (oin:=[.box [sl aF a1.l,vI a1.i,vS a1.r.Name,vS a1.r.E.S.Name,sl aB a1.r.E.S.M,vI a1.r.E.Op,vI a1.r.E.V,vI a1.r.For,vI a1.r.Keep,sl aD a1.r.Labels]]) (X:=fun r=>vB r) (O:=fun r=>[.box [sl aF a1.l,vI a1.i,vS a1.r.Name,vS a1.r.E.S.Name,sl aB a1.r.E.S.M,vI a1.r.E.Op,vI a1.r.E.V,vI a1.r.For,vI a1.r.Keep,sl aD a1.r.Labels]]) Tryz.func53 rfl (Nat.le_of_ble_eq_true (by kernel_rfl)) hm (n0:=1) rfl ?_
  simp only [Tryz.ntmps53,Tryz.results53,bA]
  unfold dE
  clear hm
  exact walk
theorem rX:aW Tryz.prog 83=true:=by kernel_rfl
theorem qW {a0:Int}{a1:Str}{a2:a6}{r:Bool} (hm:gF a0 a1 a2=some r):d6 Tryz.prog 83 [.ptr 0 0,vI a0,vS a1] [.box [sl aF a2.l,vI a2.i,vS a2.r.Name,vS a2.r.E.S.Name,sl aB a2.r.E.S.M,vI a2.r.E.Op,vI a2.r.E.V,vI a2.r.For,vI a2.r.Keep,sl aD a2.r.Labels]] (vB r) [.box [sl aF a2.l,vI a2.i,vS a2.r.Name,vS a2.r.E.S.Name,sl aB a2.r.E.S.M,vI a2.r.E.Op,vI a2.r.E.V,vI a2.r.For,vI a2.r.Keep,sl aD a2.r.Labels]]:=by
  have c1:=@fV
  have e1:=gK
  refine d6.of_model (oin:=[.box [sl aF a2.l,vI a2.i,vS a2.r.Name,vS a2.r.E.S.Name,sl aB a2.r.E.S.M,vI a2.r.E.Op,vI a2.r.E.V,vI a2.r.For,vI a2.r.Keep,sl aD a2.r.Labels]]) (X:=fun r=>vB r) (O:=fun r=>[.box [sl aF a2.l,vI a2.i,vS a2.r.Name,vS a2.r.E.S.Name,sl aB a2.r.E.S.M,vI a2.r.E.Op,vI a2.r.E.V,vI a2.r.For,vI a2.r.Keep,sl aD a2.r.Labels]]) Tryz.func83 rfl (Nat.le_of_ble_eq_true (by kernel_rfl)) hm (n0:=1) rfl ?_
  simp only [Tryz.ntmps83,Tryz.results83,bA]
  unfold gF
  clear hm
  exact walk
theorem lN:aW Tryz.prog 52=true:=by kernel_rfl
theorem kZ {a0:Int}{a1:Str}{a2:a6}{r:Bool × a6} (hm:cJ a0 a1 a2=some r):d6 Tryz.prog 52 [.ptr 0 0,vI a0,vS a1] [.box [sl aF a2.l,vI a2.i,vS a2.r.Name,vS a2.r.E.S.Name,sl aB a2.r.E.S.M,vI a2.r.E.Op,vI a2.r.E.V,vI a2.r.For,vI a2.r.Keep,sl aD a2.r.Labels]] (vB r.1) [.box [sl aF r.2.l,vI r.2.i,vS r.2.r.Name,vS r.2.r.E.S.Name,sl aB r.2.r.E.S.M,vI r.2.r.E.Op,vI r.2.r.E.V,vI r.2.r.For,vI r.2.r.Keep,sl aD r.2.r.Labels]]:=by
  have c1:=@qW
  have e1:=rX
  refine d6.of_model (oin:=[.box [sl aF a2.l,vI a2.i,vS a2.r.Name,vS a2.r.E.S.Name,sl aB a2.r.E.S.M,vI a2.r.E.Op,vI a2.r.E.V,vI a2.r.For,vI a2.r.Keep,sl aD a2.r.Labels]]) (X:=fun r=>vB r.1) (O:=fun r=>[.box [sl aF r.2.l,vI r.2.i,vS r.2.r.Name,vS r.2.r.E.S.Name,sl aB r.2.r.E.S.M,vI r.2.r.E.Op,vI r.2.r.E.V,vI r.2.r.For,vI r.2.r.Keep,sl aD r.2.r.Labels]]) Tryz.func52 rfl (Nat.le_of_ble_eq_true (by kernel_rfl)) hm (n0:=1) rfl ?_
  simp only [Tryz.ntmps52,Tryz.results52,bA]
  unfold cJ
  clear hm
  exact walk
theorem f8:aW Tryz.prog 54=true:=by kernel_rfl
theorem fL {a0:a6}{r:Int} (hm:b8 a0=some r):d6 Tryz.prog 54 [.ptr 0 0] [.box [sl aF a0.l,vI a0.i,vS a0.r.Name,vS a0.r.E.S.Name,sl aB a0.r.E.S.M,vI a0.r.E.Op,vI a0.r.E.V,vI a0.r.For,vI a0.r.Keep,sl aD a0.r.Labels]] (vI r) [.box [sl aF a0.l,vI a0.i,vS a0.r.Name,vS a0.r.E.S.Name,sl aB a0.r.E.S.M,vI a0.r.E.Op,vI a0.r.E.V,vI a0.r.For,vI a0.r.Keep,sl aD a0.r.Labels]]:=by
  refine d6.of_model (oin:=[.box [sl aF a0.l,vI a0.i,vS a0.r.Name,vS a0.r.E.S.Name,sl aB a0.r.E.S.M,vI a0.r.E.Op,vI a0.r.E.V,vI a0.r.For,vI a0.r.Keep,sl aD a0.r.Labels]]) (X:=fun r=>vI r) (O:=fun r=>[.box [sl aF a0.l,vI a0.i,vS a0.r.Name,vS a0.r.E.S.Name,sl aB a0.r.E.S.M,vI a0.r.E.Op,vI a0.r.E.V,vI a0.r.For,vI a0.r.Keep,sl aD a0.r.Labels]]) Tryz.func54 rfl (Nat.le_of_ble_eq_true (by kernel_rfl)) hm (n0:=1) rfl ?_
  simp only [Tryz.ntmps54,Tryz.results54,bA]
  unfold b8
  clear hm
  exact walk
end Go.Proofs.YtgkmbhllcekagaaGreatDoor.AM
