/- Ra -/
import Derived.Test.YthgenmkengbmmaaGreatDoorGo
set_option linter.all false
namespace Go.Proofs.YthgenmkengbmmaaGreatDoor.AM
open Go Go.Proofs
set_option maxRecDepth 20000
set_option maxHeartbeats 4000000
theorem JU:aW Tryz.prog 82=true:=by kernel_rfl
theorem IE {a0:Int}{r:Bool} (hm:uJ a0=some r):Fun Tryz.prog 82 [(vK .u8) a0] (vB r) []:=by
 refine Fun.of_model (X:=fun r=>vB r) (O:=fun r=>[]) Tryz.func82 rfl (Nat.le_of_ble_eq_true (by kernel_rfl)) hm ?_
 simp only [Tryz.ntmps82,Tryz.results82,bD]
 unfold uJ
 clear hm
 exact walk
theorem Ml:aW Tryz.prog 57=true:=by kernel_rfl
theorem Ku {a0:Str}{a1:Int}{r:Int} (hm:dV a0 a1=some r):Fun Tryz.prog 57 [vS a0,vI a1] (vI r) []:=by
 have c1:=@IE
 have e1:=JU
 refine Fun.of_model (X:=fun r=>vI r) (O:=fun r=>[]) Tryz.func57 rfl (Nat.le_of_ble_eq_true (by kernel_rfl)) hm ?_
 simp only [Tryz.ntmps57,Tryz.results57,bD]
 unfold dV
 clear hm
 exact walk
theorem Ct:aW Tryz.prog 83=true:=by kernel_rfl
theorem AZ {a0:Int}{r:Bool} (hm:oS a0=some r):Fun Tryz.prog 83 [(vK .u8) a0] (vB r) []:=by
 refine Fun.of_model (X:=fun r=>vB r) (O:=fun r=>[]) Tryz.func83 rfl (Nat.le_of_ble_eq_true (by kernel_rfl)) hm ?_
 simp only [Tryz.ntmps83,Tryz.results83,bD]
 unfold oS
 clear hm
 exact walk
theorem CY:aW Tryz.prog 84=true:=by kernel_rfl
theorem Cq {a0:Int}{r:Bool} (hm:nZ a0=some r):Fun Tryz.prog 84 [(vK .u8) a0] (vB r) []:=by
 refine Fun.of_model (X:=fun r=>vB r) (O:=fun r=>[]) Tryz.func84 rfl (Nat.le_of_ble_eq_true (by kernel_rfl)) hm ?_
 simp only [Tryz.ntmps84,Tryz.results84,bD]
 unfold nZ
 clear hm
 exact walk
theorem IW:aW Tryz.prog 58=true:=by kernel_rfl
theorem HC {a0:Str}{r:Int × Int} (hm:dA a0=some r):Fun Tryz.prog 58 [vS a0] (.tup [vI r.1,vI r.2]) []:=by
 have c1:=@AZ
 have e1:=Ct
 have c2:=@Cq
 have e2:=CY
 have c3:=@Bi
 have e3:=(by kernel_rfl:aW Tryz.prog 85=true)
 refine Fun.of_model (X:=fun r=>.tup [vI r.1,vI r.2]) (O:=fun r=>[]) Tryz.func58 rfl (Nat.le_of_ble_eq_true (by kernel_rfl)) hm ?_
 simp only [Tryz.ntmps58,Tryz.results58,bD]
 unfold dA
 clear hm
 exact walk
theorem LV:aW Tryz.prog 59=true:=by kernel_rfl
theorem JY {a0:Str}{r:Str × Int × Int} (hm:mX a0=some r):Fun Tryz.prog 59 [vS a0] (.tup [vS r.1,vI r.2.1,vI r.2.2]) []:=by
 refine Fun.of_model (X:=fun r=>.tup [vS r.1,vI r.2.1,vI r.2.2]) (O:=fun r=>[]) Tryz.func59 rfl (Nat.le_of_ble_eq_true (by kernel_rfl)) hm ?_
 simp only [Tryz.ntmps59,Tryz.results59,bD]
 unfold mX
 clear hm
 exact walk
theorem Oz:aW Tryz.prog 60=true:=by kernel_rfl
theorem LL {a0:Str}{a1:Bool}{r:Int} (hm:nK a0 a1=some r):Fun Tryz.prog 60 [vS a0,vB a1] (vI r) []:=by
 have c1:=@AZ
 have e1:=Ct
 have c2:=@Cq
 have e2:=CY
 refine Fun.of_model (X:=fun r=>vI r) (O:=fun r=>[]) Tryz.func60 rfl (Nat.le_of_ble_eq_true (by kernel_rfl)) hm ?_
 simp only [Tryz.ntmps60,Tryz.results60,bD]
 unfold nK
 clear hm
 exact walk
theorem N7:aW Tryz.prog 35=true:=by kernel_rfl
theorem L9 {a0:Str}{r:(List aL) × Int × Int} (hm:oZ a0=some r):Fun Tryz.prog 35 [vS a0] (.tup [(sl aB) r.1,vI r.2.1,vI r.2.2]) []:=by
 have c1:=@Ku
 have e1:=Ml
 have c2:=@HC
 have e2:=IW
 have c3:=@JY
 have e3:=LV
 have c4:=@LL
 have e4:=Oz
 refine Fun.of_model (X:=fun r=>.tup [(sl aB) r.1,vI r.2.1,vI r.2.2]) (O:=fun r=>[]) Tryz.func35 rfl (Nat.le_of_ble_eq_true (by kernel_rfl)) hm ?_
 simp only [Tryz.ntmps35,Tryz.results35,bD]
 unfold oZ
 clear hm
 exact walk
theorem sZ:aW Tryz.prog 88=true:=by kernel_rfl
theorem sD {a0:Int}{a1:Str}{a2:(List aL)}{a3:Int}{a4:(List aI)}{r:Bool} (hm:mU a0 a1 a2 a3 a4=some r):cW Tryz.prog 88 [.ptr 0 0,vI a0,vS a1] [.box [sl aB a2,vI a3,sl aC a4]] (vB r) [.box [sl aB a2,vI a3,sl aC a4]]:=by
 refine cW.of_model (oin:=[.box [sl aB a2,vI a3,sl aC a4]]) (X:=fun r=>vB r) (O:=fun r=>[.box [sl aB a2,vI a3,sl aC a4]]) Tryz.func88 rfl (Nat.le_of_ble_eq_true (by kernel_rfl)) hm (n0:=1) rfl ?_
 simp only [Tryz.ntmps88,Tryz.results88,bD]
 unfold mU
 clear hm
 exact walk
theorem rE:aW Tryz.prog 64=true:=by kernel_rfl
theorem pM {a0:Int}{a1:Str}{a2:(List aL)}{a3:Int}{a4:(List aI)}{r:Bool × Int} (hm:gZ a0 a1 a2 a3 a4=some r):cW Tryz.prog 64 [.ptr 0 0,vI a0,vS a1] [.box [sl aB a2,vI a3,sl aC a4]] (vB r.1) [.box [sl aB a2,vI r.2,sl aC a4]]:=by
 have c1:=@sD
 have e1:=sZ
 refine cW.of_model (oin:=[.box [sl aB a2,vI a3,sl aC a4]]) (X:=fun r=>vB r.1) (O:=fun r=>[.box [sl aB a2,vI r.2,sl aC a4]]) Tryz.func64 rfl (Nat.le_of_ble_eq_true (by kernel_rfl)) hm (n0:=1) rfl ?_
 simp only [Tryz.ntmps64,Tryz.results64,bD]
 unfold gZ
 clear hm
 exact walk
theorem p3:aW Tryz.prog 86=true:=by kernel_rfl
theorem pF {a0:(List aL)}{a1:Int}{a2:(List aI)}{r:Except Flt (Unit)} (hm:iZ a0 a1 a2=some r):iX Tryz.prog 86 [.ptr 0 0] [.box [sl aB a0,vI a1,sl aC a2]] (fun (r:Unit)=>.tup []) (fun (r:Unit)=>[.box [sl aB a0,vI a1,sl aC a2]]) 72 r:=by
 refine iX.of_model (oin:=[.box [sl aB a0,vI a1,sl aC a2]]) (X:=fun r=>.tup []) (O:=fun r=>[.box [sl aB a0,vI a1,sl aC a2]]) Tryz.func86 rfl (Nat.le_of_ble_eq_true (by kernel_rfl)) hm (n0:=1) rfl ?_
 simp only [Tryz.ntmps86,Tryz.results86,bD]
 unfold iZ
 clear hm
 exact walk
theorem AC:aW Tryz.prog 61=true:=by kernel_rfl
theorem Aa {a0:Int}{a1:Str}{a2:(List aL)}{a3:Int}{a4:(List aI)}{r:Except Flt (Int)} (hm:g9 a0 a1 a2 a3 a4=some r):iX Tryz.prog 61 [.ptr 0 0,vI a0,vS a1] [.box [sl aB a2,vI a3,sl aC a4]] (fun (r:Int)=>.tup []) (fun (r:Int)=>[.box [sl aB a2,vI r,sl aC a4]]) 72 r:=by
 have c1:=@pM
 have e1:=rE
 have c2:=@pF
 have e2:=p3
 refine iX.of_model (oin:=[.box [sl aB a2,vI a3,sl aC a4]]) (X:=fun r=>.tup []) (O:=fun r=>[.box [sl aB a2,vI r,sl aC a4]]) Tryz.func61 rfl (Nat.le_of_ble_eq_true (by kernel_rfl)) hm (n0:=1) rfl ?_
 simp only [Tryz.ntmps61,Tryz.results61,bD]
 unfold g9
 clear hm
 exact walk
end Go.Proofs.YthgenmkengbmmaaGreatDoor.AM
