/- Rg -/
import Derived.Test.YthgenmkengbmmaaGreatDoorCGo
import Derived.Test.YthgenmkengbmmaaGreatDoorCRb
import Derived.Test.YthgenmkengbmmaaGreatDoorCRd
import Derived.Test.YthgenmkengbmmaaGreatDoorCRe
import Derived.Test.YthgenmkengbmmaaGreatDoorCRf
set_option linter.all false
namespace Go.Proofs.YthgenmkengbmmaaGreatDoor.AM
open Go Go.Proofs
set_option maxRecDepth 20000
set_option maxHeartbeats 4000000
theorem Km:aU Tryz.prog 44=true:=by kernel_rfl
theorem IJ {a0:(List aY)}{r:Bool} (hm:tU a0=some r):Fun Tryz.prog 44 [(sl aK) a0] (vB r) []:=by
 have c1:=@f7
 have e1:=gV
 refine Fun.of_model (X:=fun r=>vB r) (O:=fun r=>[]) Tryz.func44 rfl (Nat.le_of_ble_eq_true (by kernel_rfl)) hm ?_
 simp only [Tryz.ntmps44,Tryz.results44,bF]
 unfold tU
 clear hm
 exact walk
theorem Et:aU Tryz.prog 19=true:=by kernel_rfl
theorem Dj {a0:a6}{r:Bool} (hm:sH a0=some r):Fun Tryz.prog 19 [(ag bL) a0] (vB r) []:=by
 have c1:=@f7
 have e1:=gV
 have c2:=@Dw
 have e2:=Eh
 have c3:=@t6
 have e3:=vU
 have c4:=@IJ
 have e4:=Km
 have c5:=@xI
 have e5:=z7
 refine Fun.of_model (X:=fun r=>vB r) (O:=fun r=>[]) Tryz.func19 rfl (Nat.le_of_ble_eq_true (by kernel_rfl)) hm ?_
 simp only [Tryz.ntmps19,Tryz.results19,bF]
 unfold sH
 clear hm
 exact walk
theorem LD:aU Tryz.prog 38=true:=by kernel_rfl
theorem Ky {a0:aI}{r:Bool} (hm:wH a0=some r):Fun Tryz.prog 38 [(ag aD) a0] (vB r) []:=by
 have c1:=@Dj
 have e1:=Et
 have c2:=@f7
 have e2:=gV
 have c3:=@t6
 have e3:=vU
 have c4:=@rM
 have e4:=tY
 refine Fun.of_model (X:=fun r=>vB r) (O:=fun r=>[]) Tryz.func38 rfl (Nat.le_of_ble_eq_true (by kernel_rfl)) hm ?_
 simp only [Tryz.ntmps38,Tryz.results38,bF]
 unfold wH
 clear hm
 exact walk
theorem zD:aU Tryz.prog 17=true:=by kernel_rfl
theorem w6 {a0:(List aI)}{r:Bool} (hm:nB a0=some r):Fun Tryz.prog 17 [(sl aD) a0] (vB r) []:=by
 have c1:=@Ky
 have e1:=LD
 have c2:=@qJ
 have e2:=rK
 refine Fun.of_model (X:=fun r=>vB r) (O:=fun r=>[]) Tryz.func17 rfl (Nat.le_of_ble_eq_true (by kernel_rfl)) hm ?_
 simp only [Tryz.ntmps17,Tryz.results17,bF]
 unfold nB
 clear hm
 exact walk
theorem K4:aU Tryz.prog 33=true:=by kernel_rfl
theorem KI {a0:Int}{r:Str} (hm:oV a0=some r):Fun Tryz.prog 33 [vI a0] (vS r) []:=by
 have c1:=@t6
 have e1:=vU
 have c2:=@zS
 have e2:=(by kernel_rfl:aU Tryz.prog 56=true)
 have gr1:=Ot
 refine Fun.of_model (X:=fun r=>vS r) (O:=fun r=>[]) Tryz.func33 rfl (Nat.le_of_ble_eq_true (by kernel_rfl)) hm ?_
 simp only [Tryz.ntmps33,Tryz.results33,bF]
 unfold oV
 clear hm
 exact walk
theorem Ex:aU Tryz.prog 47=true:=by kernel_rfl
theorem DH {a0:Str}{r:Str} (hm:kV a0=some r):Fun Tryz.prog 47 [vS a0] (vS r) []:=by
 refine Fun.of_model (X:=fun r=>vS r) (O:=fun r=>[]) Tryz.func47 rfl (Nat.le_of_ble_eq_true (by kernel_rfl)) hm ?_
 simp only [Tryz.ntmps47,Tryz.results47,bF]
 unfold kV
 clear hm
 exact walk
theorem Lw:aU Tryz.prog 73=true:=by kernel_rfl
theorem Kq {a0:cT}{r:Str} (hm:wB a0=some r):Fun Tryz.prog 73 [(ag rI) a0] (vS r) []:=by
 have c1:=@DH
 have e1:=Ex
 have c2:=@EA
 have e2:=Fz
 refine Fun.of_model (X:=fun r=>vS r) (O:=fun r=>[]) Tryz.func73 rfl (Nat.le_of_ble_eq_true (by kernel_rfl)) hm ?_
 simp only [Tryz.ntmps73,Tryz.results73,bF]
 unfold wB
 clear hm
 exact walk
theorem yX:aU Tryz.prog 110=true:=by kernel_rfl
theorem xO {a0:Str}{a1:Int}{r:Str} (hm:hY a0 a1=some r):Fun Tryz.prog 110 [vS a0,(vK .u8) a1] (vS r) []:=by
 refine Fun.of_model (X:=fun r=>vS r) (O:=fun r=>[]) Tryz.func110 rfl (Nat.le_of_ble_eq_true (by kernel_rfl)) hm ?_
 simp only [Tryz.ntmps110,Tryz.results110,bF]
 unfold hY
 clear hm
 exact walk
theorem Dc:aU Tryz.prog 91=true:=by kernel_rfl
theorem B0 {a0:Str}{a1:Str}{r:Str} (hm:gG a0 a1=some r):Fun Tryz.prog 91 [vS a0,vS a1] (vS r) []:=by
 have c1:=@xO
 have e1:=yX
 refine Fun.of_model (X:=fun r=>vS r) (O:=fun r=>[]) Tryz.func91 rfl (Nat.le_of_ble_eq_true (by kernel_rfl)) hm ?_
 simp only [Tryz.ntmps91,Tryz.results91,bF]
 unfold gG
 clear hm
 exact walk
theorem K0:aU Tryz.prog 74=true:=by kernel_rfl
theorem Ko {a0:Int}{r:Str} (hm:wW a0=some r):Fun Tryz.prog 74 [vI a0] (vS r) []:=by
 have c1:=@zS
 have e1:=(by kernel_rfl:aU Tryz.prog 56=true)
 have c2:=@zO
 have e2:=Bf
 have c3:=@B0
 have e3:=Dc
 refine Fun.of_model (X:=fun r=>vS r) (O:=fun r=>[]) Tryz.func74 rfl (Nat.le_of_ble_eq_true (by kernel_rfl)) hm ?_
 simp only [Tryz.ntmps74,Tryz.results74,bF]
 unfold wW
 clear hm
 exact walk
theorem KO:aU Tryz.prog 46=true:=by kernel_rfl
theorem Zq {a0:cG}{r:Str} (hm:uA a0=some r):Fun Tryz.prog 46 [(ag wC) a0] (vS r) []:=by
 have c1:=@Dw
 have e1:=Eh
 have c2:=@Kq
 have e2:=Lw
 have c3:=@Ko
 have e3:=K0
 have gr1:=Ok
 refine Fun.of_model (X:=fun r=>vS r) (O:=fun r=>[]) Tryz.func46 rfl (Nat.le_of_ble_eq_true (by kernel_rfl)) hm ?_
 simp only [Tryz.ntmps46,Tryz.results46,bF]
 unfold uA
 clear hm
 exact walk
end Go.Proofs.YthgenmkengbmmaaGreatDoor.AM
