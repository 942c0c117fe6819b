/- Rb -/
import Derived.Test.YthgenmkengbmmaaGreatDoorCGo
import Derived.Test.YthgenmkengbmmaaGreatDoorCRa
set_option linter.all false
namespace Go.Proofs.YthgenmkengbmmaaGreatDoor.AM
open Go Go.Proofs
set_option maxRecDepth 20000
set_option maxHeartbeats 4000000
theorem r9:aU Tryz.prog 62=true:=by kernel_rfl
theorem q6 {a0:Int}{a1:(List aN)}{a2:Int}{a3:(List aI)}{r:Except Flt (Str × Int)} (hm:lU a0 a1 a2 a3=some r):jD Tryz.prog 62 [.ptr 0 0,vI a0] [.box [sl aB a1,vI a2,sl aD a3]] (fun (r:Str × Int)=>vS r.1) (fun (r:Str × Int)=>[.box [sl aB a1,vI r.2,sl aD a3]]) 72 r:=by
 have c1:=@qF
 have e1:=qM
 refine jD.of_model (oin:=[.box [sl aB a1,vI a2,sl aD a3]]) (X:=fun r=>vS r.1) (O:=fun r=>[.box [sl aB a1,vI r.2,sl aD a3]]) Tryz.func62 rfl (Nat.le_of_ble_eq_true (by kernel_rfl)) hm (n0:=1) rfl ?_
 simp only [Tryz.ntmps62,Tryz.results62,bF]
 unfold lU
 clear hm
 exact walk
theorem gV:aU Tryz.prog 41=true:=by kernel_rfl
theorem f7 {a0:Str}{r:Bool} (hm:fR a0=some r):Fun Tryz.prog 41 [vS a0] (vB r) []:=by
 refine Fun.of_model (X:=fun r=>vB r) (O:=fun r=>[]) Tryz.func41 rfl (Nat.le_of_ble_eq_true (by kernel_rfl)) hm ?_
 simp only [Tryz.ntmps41,Tryz.results41,bF]
 unfold fR
 clear hm
 exact walk
theorem rK:aU Tryz.prog 39=true:=by kernel_rfl
theorem qJ {a0:(List aI)}{a1:Str}{r:Bool} (hm:kF a0 a1=some r):Fun Tryz.prog 39 [(sl aD) a0,vS a1] (vB r) []:=by
 refine Fun.of_model (X:=fun r=>vB r) (O:=fun r=>[]) Tryz.func39 rfl (Nat.le_of_ble_eq_true (by kernel_rfl)) hm ?_
 simp only [Tryz.ntmps39,Tryz.results39,bF]
 unfold kF
 clear hm
 exact walk
theorem K6:aU Tryz.prog 106=true:=by kernel_rfl
theorem KA {a0:Str}{r:Int × Int} (hm:wK a0=some r):Fun Tryz.prog 106 [vS a0] (.tup [vI r.1,vI r.2]) []:=by
 refine Fun.of_model (X:=fun r=>.tup [vI r.1,vI r.2]) (O:=fun r=>[]) Tryz.func106 rfl (Nat.le_of_ble_eq_true (by kernel_rfl)) hm ?_
 simp only [Tryz.ntmps106,Tryz.results106,bF]
 unfold wK
 clear hm
 exact walk
theorem pL:aU Tryz.prog 124=true:=by kernel_rfl
theorem oQ {a0:Str}{a1:Str}{r:Bool} (hm:fU a0 a1=some r):Fun Tryz.prog 124 [vS a0,vS a1] (vB r) []:=by
 refine Fun.of_model (X:=fun r=>vB r) (O:=fun r=>[]) Tryz.func124 rfl (Nat.le_of_ble_eq_true (by kernel_rfl)) hm ?_
 simp only [Tryz.ntmps124,Tryz.results124,bF]
 unfold fU
 clear hm
 exact walk
theorem CI:aU Tryz.prog 107=true:=by kernel_rfl
theorem BR {a0:Str}{a1:Str}{r:Bool} (hm:iZ a0 a1=some r):Fun Tryz.prog 107 [vS a0,vS a1] (vB r) []:=by
 have c1:=@oQ
 have e1:=pL
 refine Fun.of_model (X:=fun r=>vB r) (O:=fun r=>[]) Tryz.func107 rfl (Nat.le_of_ble_eq_true (by kernel_rfl)) hm ?_
 simp only [Tryz.ntmps107,Tryz.results107,bF]
 unfold iZ
 clear hm
 exact walk
theorem Po:aU Tryz.prog 108=true:=by kernel_rfl
theorem NY {a0:Int}{a1:Int}{a2:Int}{r:Int} (hm:yF a0 a1 a2=some r):Fun Tryz.prog 108 [vI a0,vI a1,vI a2] (vI r) []:=by
 refine Fun.of_model (X:=fun r=>vI r) (O:=fun r=>[]) Tryz.func108 rfl (Nat.le_of_ble_eq_true (by kernel_rfl)) hm ?_
 simp only [Tryz.ntmps108,Tryz.results108,bF]
 unfold yF
 clear hm
 exact walk
theorem vU:aU Tryz.prog 43=true:=by kernel_rfl
theorem t6 {a0:Int}{r:Bool} (hm:nM a0=some r):Fun Tryz.prog 43 [vI a0] (vB r) []:=by
 refine Fun.of_model (X:=fun r=>vB r) (O:=fun r=>[]) Tryz.func43 rfl (Nat.le_of_ble_eq_true (by kernel_rfl)) hm ?_
 simp only [Tryz.ntmps43,Tryz.results43,bF]
 unfold nM
 clear hm
 exact walk
theorem tF:aU Tryz.prog 87=true:=by kernel_rfl
theorem rJ {a0:Str}{r:Int × Int} (hm:m8 a0=some r):Fun Tryz.prog 87 [vS a0] (.tup [vI r.1,vI r.2]) []:=by
 have c1:=@KA
 have e1:=K6
 have c2:=@BR
 have e2:=CI
 have c3:=@NY
 have e3:=Po
 have c4:=@t6
 have e4:=vU
 have gr1:=Ot
 refine Fun.of_model (X:=fun r=>.tup [vI r.1,vI r.2]) (O:=fun r=>[]) Tryz.func87 rfl (Nat.le_of_ble_eq_true (by kernel_rfl)) hm ?_
 simp only [Tryz.ntmps87,Tryz.results87,bF]
 unfold m8
 clear hm
 exact walk
theorem xM:aU Tryz.prog 63=true:=by kernel_rfl
theorem w5 {a0:(List aN)}{a1:Int}{a2:(List aI)}{r:Except Flt (Int × Int)} (hm:jP a0 a1 a2=some r):jD Tryz.prog 63 [.ptr 0 0] [.box [sl aB a0,vI a1,sl aD a2]] (fun (r:Int × Int)=>vI r.1) (fun (r:Int × Int)=>[.box [sl aB a0,vI r.2,sl aD a2]]) 72 r:=by
 have c1:=@q6
 have e1:=r9
 have c2:=@rJ
 have e2:=tF
 refine jD.of_model (oin:=[.box [sl aB a0,vI a1,sl aD a2]]) (X:=fun r=>vI r.1) (O:=fun r=>[.box [sl aB a0,vI r.2,sl aD a2]]) Tryz.func63 rfl (Nat.le_of_ble_eq_true (by kernel_rfl)) hm (n0:=1) rfl ?_
 simp only [Tryz.ntmps63,Tryz.results63,bF]
 unfold jP
 clear hm
 exact walk
theorem iI:aU Tryz.prog 126=true:=by kernel_rfl
theorem gT {a0:Int}{a1:bD}{r:Bool} (hm:dU a0 a1=some r):dE Tryz.prog 126 [.ptr 0 0,vI a0] [.box [sl aB a1.l,vI a1.i,vS a1.r.Name,vS a1.r.E.S.Name,sl aH a1.r.E.S.M,vI a1.r.E.Op,vI a1.r.E.V,vI a1.r.For,vI a1.r.Keep,sl aK a1.r.Labels]] (vB r) [.box [sl aB a1.l,vI a1.i,vS a1.r.Name,vS a1.r.E.S.Name,sl aH a1.r.E.S.M,vI a1.r.E.Op,vI a1.r.E.V,vI a1.r.For,vI a1.r.Keep,sl aK a1.r.Labels]]:=by
 refine dE.of_model (oin:=[.box [sl aB a1.l,vI a1.i,vS a1.r.Name,vS a1.r.E.S.Name,sl aH a1.r.E.S.M,vI a1.r.E.Op,vI a1.r.E.V,vI a1.r.For,vI a1.r.Keep,sl aK a1.r.Labels]]) (X:=fun r=>vB r) (O:=fun r=>[.box [sl aB a1.l,vI a1.i,vS a1.r.Name,vS a1.r.E.S.Name,sl aH a1.r.E.S.M,vI a1.r.E.Op,vI a1.r.E.V,vI a1.r.For,vI a1.r.Keep,sl aK a1.r.Labels]]) Tryz.func126 rfl (Nat.le_of_ble_eq_true (by kernel_rfl)) hm (n0:=1) rfl ?_
 simp only [Tryz.ntmps126,Tryz.results126,bF]
 unfold dU
 clear hm
 exact walk
theorem uH:aU Tryz.prog 141=true:=by kernel_rfl
theorem tB {a0:Int}{a1:Str}{a2:bD}{r:Bool} (hm:g8 a0 a1 a2=some r):dE Tryz.prog 141 [.ptr 0 0,vI a0,vS a1] [.box [sl aB a2.l,vI a2.i,vS a2.r.Name,vS a2.r.E.S.Name,sl aH a2.r.E.S.M,vI a2.r.E.Op,vI a2.r.E.V,vI a2.r.For,vI a2.r.Keep,sl aK a2.r.Labels]] (vB r) [.box [sl aB a2.l,vI a2.i,vS a2.r.Name,vS a2.r.E.S.Name,sl aH a2.r.E.S.M,vI a2.r.E.Op,vI a2.r.E.V,vI a2.r.For,vI a2.r.Keep,sl aK a2.r.Labels]]:=by
 have c1:=@gT
 have e1:=iI
 refine dE.of_model (oin:=[.box [sl aB a2.l,vI a2.i,vS a2.r.Name,vS a2.r.E.S.Name,sl aH a2.r.E.S.M,vI a2.r.E.Op,vI a2.r.E.V,vI a2.r.For,vI a2.r.Keep,sl aK a2.r.Labels]]) (X:=fun r=>vB r) (O:=fun r=>[.box [sl aB a2.l,vI a2.i,vS a2.r.Name,vS a2.r.E.S.Name,sl aH a2.r.E.S.M,vI a2.r.E.Op,vI a2.r.E.V,vI a2.r.For,vI a2.r.Keep,sl aK a2.r.Labels]]) Tryz.func141 rfl (Nat.le_of_ble_eq_true (by kernel_rfl)) hm (n0:=1) rfl ?_
 simp only [Tryz.ntmps141,Tryz.results141,bF]
 unfold g8
 clear hm
 exact walk
end Go.Proofs.YthgenmkengbmmaaGreatDoor.AM
