/- Rb -/
import Derived.Test.YthgenmkengbmmaaGreatDoorGo
import Derived.Test.YthgenmkengbmmaaGreatDoorRa
set_option linter.all false
namespace Go.Proofs.YthgenmkengbmmaaGreatDoor.AM
open Go Go.Proofs
set_option maxRecDepth 20000
set_option maxHeartbeats 4000000
theorem rI:aW Tryz.prog 62=true:=by kernel_rfl
theorem pY {a0:Int}{a1:(List aL)}{a2:Int}{a3:(List aI)}{r:Except Flt (Str × Int)} (hm:lN a0 a1 a2 a3=some r):iX Tryz.prog 62 [.ptr 0 0,vI a0] [.box [sl aB a1,vI a2,sl aC a3]] (fun (r:Str × Int)=>vS r.1) (fun (r:Str × Int)=>[.box [sl aB a1,vI r.2,sl aC a3]]) 72 r:=by
 have c1:=@pF
 have e1:=p3
 refine iX.of_model (oin:=[.box [sl aB a1,vI a2,sl aC a3]]) (X:=fun r=>vS r.1) (O:=fun r=>[.box [sl aB a1,vI r.2,sl aC a3]]) Tryz.func62 rfl (Nat.le_of_ble_eq_true (by kernel_rfl)) hm (n0:=1) rfl ?_
 simp only [Tryz.ntmps62,Tryz.results62,bD]
 unfold lN
 clear hm
 exact walk
theorem gV:aW Tryz.prog 41=true:=by kernel_rfl
theorem f8 {a0:Str}{r:Bool} (hm:fG a0=some r):Fun Tryz.prog 41 [vS a0] (vB r) []:=by
 refine Fun.of_model (X:=fun r=>vB r) (O:=fun r=>[]) Tryz.func41 rfl (Nat.le_of_ble_eq_true (by kernel_rfl)) hm ?_
 simp only [Tryz.ntmps41,Tryz.results41,bD]
 unfold fG
 clear hm
 exact walk
theorem qN:aW Tryz.prog 39=true:=by kernel_rfl
theorem pH {a0:(List aI)}{a1:Str}{r:Bool} (hm:jZ a0 a1=some r):Fun Tryz.prog 39 [(sl aC) a0,vS a1] (vB r) []:=by
 refine Fun.of_model (X:=fun r=>vB r) (O:=fun r=>[]) Tryz.func39 rfl (Nat.le_of_ble_eq_true (by kernel_rfl)) hm ?_
 simp only [Tryz.ntmps39,Tryz.results39,bD]
 unfold jZ
 clear hm
 exact walk
theorem J3:aW Tryz.prog 106=true:=by kernel_rfl
theorem IX {a0:Str}{r:Int × Int} (hm:uT a0=some r):Fun Tryz.prog 106 [vS a0] (.tup [vI r.1,vI r.2]) []:=by
 refine Fun.of_model (X:=fun r=>.tup [vI r.1,vI r.2]) (O:=fun r=>[]) Tryz.func106 rfl (Nat.le_of_ble_eq_true (by kernel_rfl)) hm ?_
 simp only [Tryz.ntmps106,Tryz.results106,bD]
 unfold uT
 clear hm
 exact walk
theorem nY:aW Tryz.prog 124=true:=by kernel_rfl
theorem nQ {a0:Str}{a1:Str}{r:Bool} (hm:fM a0 a1=some r):Fun Tryz.prog 124 [vS a0,vS a1] (vB r) []:=by
 refine Fun.of_model (X:=fun r=>vB r) (O:=fun r=>[]) Tryz.func124 rfl (Nat.le_of_ble_eq_true (by kernel_rfl)) hm ?_
 simp only [Tryz.ntmps124,Tryz.results124,bD]
 unfold fM
 clear hm
 exact walk
theorem Bq:aW Tryz.prog 107=true:=by kernel_rfl
theorem Be {a0:Str}{a1:Str}{r:Bool} (hm:iO a0 a1=some r):Fun Tryz.prog 107 [vS a0,vS a1] (vB r) []:=by
 have c1:=@nQ
 have e1:=nY
 refine Fun.of_model (X:=fun r=>vB r) (O:=fun r=>[]) Tryz.func107 rfl (Nat.le_of_ble_eq_true (by kernel_rfl)) hm ?_
 simp only [Tryz.ntmps107,Tryz.results107,bD]
 unfold iO
 clear hm
 exact walk
theorem Ny:aW Tryz.prog 108=true:=by kernel_rfl
theorem Ma {a0:Int}{a1:Int}{a2:Int}{r:Int} (hm:w8 a0 a1 a2=some r):Fun Tryz.prog 108 [vI a0,vI a1,vI a2] (vI r) []:=by
 refine Fun.of_model (X:=fun r=>vI r) (O:=fun r=>[]) Tryz.func108 rfl (Nat.le_of_ble_eq_true (by kernel_rfl)) hm ?_
 simp only [Tryz.ntmps108,Tryz.results108,bD]
 unfold w8
 clear hm
 exact walk
theorem uG:aW Tryz.prog 43=true:=by kernel_rfl
theorem sU {a0:Int}{r:Bool} (hm:nC a0=some r):Fun Tryz.prog 43 [vI a0] (vB r) []:=by
 refine Fun.of_model (X:=fun r=>vB r) (O:=fun r=>[]) Tryz.func43 rfl (Nat.le_of_ble_eq_true (by kernel_rfl)) hm ?_
 simp only [Tryz.ntmps43,Tryz.results43,bD]
 unfold nC
 clear hm
 exact walk
theorem rX:aW Tryz.prog 87=true:=by kernel_rfl
theorem qG {a0:Str}{r:Int × Int} (hm:mP a0=some r):Fun Tryz.prog 87 [vS a0] (.tup [vI r.1,vI r.2]) []:=by
 have c1:=@IX
 have e1:=J3
 have c2:=@Be
 have e2:=Bq
 have c3:=@Ma
 have e3:=Ny
 have c4:=@sU
 have e4:=uG
 have gr1:=MV
 refine Fun.of_model (X:=fun r=>.tup [vI r.1,vI r.2]) (O:=fun r=>[]) Tryz.func87 rfl (Nat.le_of_ble_eq_true (by kernel_rfl)) hm ?_
 simp only [Tryz.ntmps87,Tryz.results87,bD]
 unfold mP
 clear hm
 exact walk
theorem wN:aW Tryz.prog 63=true:=by kernel_rfl
theorem vJ {a0:(List aL)}{a1:Int}{a2:(List aI)}{r:Except Flt (Int × Int)} (hm:jD a0 a1 a2=some r):iX Tryz.prog 63 [.ptr 0 0] [.box [sl aB a0,vI a1,sl aC a2]] (fun (r:Int × Int)=>vI r.1) (fun (r:Int × Int)=>[.box [sl aB a0,vI r.2,sl aC a2]]) 72 r:=by
 have c1:=@pY
 have e1:=rI
 have c2:=@qG
 have e2:=rX
 refine iX.of_model (oin:=[.box [sl aB a0,vI a1,sl aC a2]]) (X:=fun r=>vI r.1) (O:=fun r=>[.box [sl aB a0,vI r.2,sl aC a2]]) Tryz.func63 rfl (Nat.le_of_ble_eq_true (by kernel_rfl)) hm (n0:=1) rfl ?_
 simp only [Tryz.ntmps63,Tryz.results63,bD]
 unfold jD
 clear hm
 exact walk
theorem hJ:aW Tryz.prog 126=true:=by kernel_rfl
theorem gL {a0:Int}{a1:aX}{r:Bool} (hm:dR a0 a1=some r):cW Tryz.prog 126 [.ptr 0 0,vI a0] [.box [sl aB a1.l,vI a1.i,vS a1.r.Name,vS a1.r.E.S.Name,sl aF a1.r.E.S.M,vI a1.r.E.Op,vI a1.r.E.V,vI a1.r.For,vI a1.r.Keep,sl aJ a1.r.Labels]] (vB r) [.box [sl aB a1.l,vI a1.i,vS a1.r.Name,vS a1.r.E.S.Name,sl aF a1.r.E.S.M,vI a1.r.E.Op,vI a1.r.E.V,vI a1.r.For,vI a1.r.Keep,sl aJ a1.r.Labels]]:=by
 refine cW.of_model (oin:=[.box [sl aB a1.l,vI a1.i,vS a1.r.Name,vS a1.r.E.S.Name,sl aF a1.r.E.S.M,vI a1.r.E.Op,vI a1.r.E.V,vI a1.r.For,vI a1.r.Keep,sl aJ a1.r.Labels]]) (X:=fun r=>vB r) (O:=fun r=>[.box [sl aB a1.l,vI a1.i,vS a1.r.Name,vS a1.r.E.S.Name,sl aF a1.r.E.S.M,vI a1.r.E.Op,vI a1.r.E.V,vI a1.r.For,vI a1.r.Keep,sl aJ a1.r.Labels]]) Tryz.func126 rfl (Nat.le_of_ble_eq_true (by kernel_rfl)) hm (n0:=1) rfl ?_
 simp only [Tryz.ntmps126,Tryz.results126,bD]
 unfold dR
 clear hm
 exact walk
theorem s4:aW Tryz.prog 141=true:=by kernel_rfl
theorem sX {a0:Int}{a1:Str}{a2:aX}{r:Bool} (hm:gW a0 a1 a2=some r):cW Tryz.prog 141 [.ptr 0 0,vI a0,vS a1] [.box [sl aB a2.l,vI a2.i,vS a2.r.Name,vS a2.r.E.S.Name,sl aF a2.r.E.S.M,vI a2.r.E.Op,vI a2.r.E.V,vI a2.r.For,vI a2.r.Keep,sl aJ a2.r.Labels]] (vB r) [.box [sl aB a2.l,vI a2.i,vS a2.r.Name,vS a2.r.E.S.Name,sl aF a2.r.E.S.M,vI a2.r.E.Op,vI a2.r.E.V,vI a2.r.For,vI a2.r.Keep,sl aJ a2.r.Labels]]:=by
 have c1:=@gL
 have e1:=hJ
 refine cW.of_model (oin:=[.box [sl aB a2.l,vI a2.i,vS a2.r.Name,vS a2.r.E.S.Name,sl aF a2.r.E.S.M,vI a2.r.E.Op,vI a2.r.E.V,vI a2.r.For,vI a2.r.Keep,sl aJ a2.r.Labels]]) (X:=fun r=>vB r) (O:=fun r=>[.box [sl aB a2.l,vI a2.i,vS a2.r.Name,vS a2.r.E.S.Name,sl aF a2.r.E.S.M,vI a2.r.E.Op,vI a2.r.E.V,vI a2.r.For,vI a2.r.Keep,sl aJ a2.r.Labels]]) Tryz.func141 rfl (Nat.le_of_ble_eq_true (by kernel_rfl)) hm (n0:=1) rfl ?_
 simp only [Tryz.ntmps141,Tryz.results141,bD]
 unfold gW
 clear hm
 exact walk
end Go.Proofs.YthgenmkengbmmaaGreatDoor.AM
