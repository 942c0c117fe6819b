/- Rg -/
import Derived.Test.YthgenmkengbmmaaGreatDoorGo
import Derived.Test.YthgenmkengbmmaaGreatDoorRb
import Derived.Test.YthgenmkengbmmaaGreatDoorRd
import Derived.Test.YthgenmkengbmmaaGreatDoorRe
import Derived.Test.YthgenmkengbmmaaGreatDoorRf
set_option linter.all false
namespace Go.Proofs.YthgenmkengbmmaaGreatDoor.AM
open Go Go.Proofs
set_option maxRecDepth 20000
set_option maxHeartbeats 4000000
theorem IV:aW Tryz.prog 44=true:=by kernel_rfl
theorem Ht {a0:(List aQ)}{r:Bool} (hm:rZ a0=some r):Fun Tryz.prog 44 [(sl aJ) a0] (vB r) []:=by
 have c1:=@f8
 have e1:=gV
 refine Fun.of_model (X:=fun r=>vB r) (O:=fun r=>[]) Tryz.func44 rfl (Nat.le_of_ble_eq_true (by kernel_rfl)) hm ?_
 simp only [Tryz.ntmps44,Tryz.results44,bD]
 unfold rZ
 clear hm
 exact walk
theorem yM:aW Tryz.prog 19=true:=by kernel_rfl
theorem vW {a0:aR}{r:Bool} (hm:oM a0=some r):Fun Tryz.prog 19 [(ag bA) a0] (vB r) []:=by
 have c1:=@f8
 have e1:=gV
 have c2:=@Cg
 have e2:=De
 have c3:=@sU
 have e3:=uG
 have c4:=@Ht
 have e4:=IV
 have c5:=@v6
 have e5:=xP
 refine Fun.of_model (X:=fun r=>vB r) (O:=fun r=>[]) Tryz.func19 rfl (Nat.le_of_ble_eq_true (by kernel_rfl)) hm ?_
 simp only [Tryz.ntmps19,Tryz.results19,bD]
 unfold oM
 clear hm
 exact walk
theorem Ll:aW Tryz.prog 38=true:=by kernel_rfl
theorem IA {a0:aI}{r:Bool} (hm:uY a0=some r):Fun Tryz.prog 38 [(ag aC) a0] (vB r) []:=by
 have c1:=@vW
 have e1:=yM
 have c2:=@f8
 have e2:=gV
 have c3:=@sU
 have e3:=uG
 have c4:=@qT
 have e4:=sL
 refine Fun.of_model (X:=fun r=>vB r) (O:=fun r=>[]) Tryz.func38 rfl (Nat.le_of_ble_eq_true (by kernel_rfl)) hm ?_
 simp only [Tryz.ntmps38,Tryz.results38,bD]
 unfold uY
 clear hm
 exact walk
theorem kM:aW Tryz.prog 17=true:=by kernel_rfl
theorem j0 {a0:(List aI)}{r:Bool} (hm:fQ a0=some r):Fun Tryz.prog 17 [(sl aC) a0] (vB r) []:=by
 have c1:=@IA
 have e1:=Ll
 have c2:=@pH
 have e2:=qN
 refine Fun.of_model (X:=fun r=>vB r) (O:=fun r=>[]) Tryz.func17 rfl (Nat.le_of_ble_eq_true (by kernel_rfl)) hm ?_
 simp only [Tryz.ntmps17,Tryz.results17,bD]
 unfold fQ
 clear hm
 exact walk
theorem Cy:aW Tryz.prog 33=true:=by kernel_rfl
theorem Cu {a0:Int}{r:Str} (hm:lK a0=some r):Fun Tryz.prog 33 [vI a0] (vS r) []:=by
 have c1:=@sU
 have e1:=uG
 have c2:=@yH
 have e2:=(by kernel_rfl:aW Tryz.prog 56=true)
 have gr1:=MV
 refine Fun.of_model (X:=fun r=>vS r) (O:=fun r=>[]) Tryz.func33 rfl (Nat.le_of_ble_eq_true (by kernel_rfl)) hm ?_
 simp only [Tryz.ntmps33,Tryz.results33,bD]
 unfold lK
 clear hm
 exact walk
theorem qL:aW Tryz.prog 32=true:=by kernel_rfl
theorem pN {a0:Str}{a1:(List Int)}{r:Int × Unit × (List Int)} (hm:bR a0 a1=some r):cW Tryz.prog 32 [.ptr 0 0,vS a0] [.bld 61 (so 1 (cK .u8) a1),tk a1.length 1 5] (.tup [vI r.1,vNI r.2.1]) [.bld 61 (so 1 (cK .u8) r.2.2),tk r.2.2.length 1 5]:=by
 have c1:=@LA
 have e1:=(by kernel_rfl:aW Tryz.prog 55=true)
 refine cW.of_model (oin:=[.bld 61 (so 1 (cK .u8) a1),tk a1.length 1 5]) (X:=fun r=>.tup [vI r.1,vNI r.2.1]) (O:=fun r=>[.bld 61 (so 1 (cK .u8) r.2.2),tk r.2.2.length 1 5]) Tryz.func32 rfl (Nat.le_of_ble_eq_true (by kernel_rfl)) hm (n0:=2) rfl ?_
 simp only [Tryz.ntmps32,Tryz.results32,bD]
 unfold bR
 clear hm
 exact walk
theorem Dt:aW Tryz.prog 47=true:=by kernel_rfl
theorem Cm {a0:Str}{r:Str} (hm:kF a0=some r):Fun Tryz.prog 47 [vS a0] (vS r) []:=by
 refine Fun.of_model (X:=fun r=>vS r) (O:=fun r=>[]) Tryz.func47 rfl (Nat.le_of_ble_eq_true (by kernel_rfl)) hm ?_
 simp only [Tryz.ntmps47,Tryz.results47,bD]
 unfold kF
 clear hm
 exact walk
theorem Lk:aW Tryz.prog 73=true:=by kernel_rfl
theorem IR {a0:cN}{r:Str} (hm:uN a0=some r):Fun Tryz.prog 73 [(ag qH) a0] (vS r) []:=by
 have c1:=@Cm
 have e1:=Dt
 have c2:=@CL
 have e2:=Ea
 refine Fun.of_model (X:=fun r=>vS r) (O:=fun r=>[]) Tryz.func73 rfl (Nat.le_of_ble_eq_true (by kernel_rfl)) hm ?_
 simp only [Tryz.ntmps73,Tryz.results73,bD]
 unfold uN
 clear hm
 exact walk
theorem xE:aW Tryz.prog 110=true:=by kernel_rfl
theorem wF {a0:Str}{a1:Int}{r:Str} (hm:hY a0 a1=some r):Fun Tryz.prog 110 [vS a0,(vK .u8) a1] (vS r) []:=by
 refine Fun.of_model (X:=fun r=>vS r) (O:=fun r=>[]) Tryz.func110 rfl (Nat.le_of_ble_eq_true (by kernel_rfl)) hm ?_
 simp only [Tryz.ntmps110,Tryz.results110,bD]
 unfold hY
 clear hm
 exact walk
theorem Cd:aW Tryz.prog 91=true:=by kernel_rfl
theorem A9 {a0:Str}{a1:Str}{r:Str} (hm:gD a0 a1=some r):Fun Tryz.prog 91 [vS a0,vS a1] (vS r) []:=by
 have c1:=@wF
 have e1:=xE
 refine Fun.of_model (X:=fun r=>vS r) (O:=fun r=>[]) Tryz.func91 rfl (Nat.le_of_ble_eq_true (by kernel_rfl)) hm ?_
 simp only [Tryz.ntmps91,Tryz.results91,bD]
 unfold gD
 clear hm
 exact walk
theorem Kc:aW Tryz.prog 74=true:=by kernel_rfl
theorem Zq {a0:Int}{r:Str} (hm:vA a0=some r):Fun Tryz.prog 74 [vI a0] (vS r) []:=by
 have c1:=@yH
 have e1:=(by kernel_rfl:aW Tryz.prog 56=true)
 have c2:=@yO
 have e2:=Ao
 have c3:=@A9
 have e3:=Cd
 refine Fun.of_model (X:=fun r=>vS r) (O:=fun r=>[]) Tryz.func74 rfl (Nat.le_of_ble_eq_true (by kernel_rfl)) hm ?_
 simp only [Tryz.ntmps74,Tryz.results74,bD]
 unfold vA
 clear hm
 exact walk
theorem IY:aW Tryz.prog 46=true:=by kernel_rfl
theorem Hw {a0:bX}{r:Str} (hm:sB a0=some r):Fun Tryz.prog 46 [(ag uX) a0] (vS r) []:=by
 have c1:=@Cg
 have e1:=De
 have c2:=@IR
 have e2:=Lk
 have c3:=@Zq
 have e3:=Kc
 have gr1:=M8
 refine Fun.of_model (X:=fun r=>vS r) (O:=fun r=>[]) Tryz.func46 rfl (Nat.le_of_ble_eq_true (by kernel_rfl)) hm ?_
 simp only [Tryz.ntmps46,Tryz.results46,bD]
 unfold sB
 clear hm
 exact walk
end Go.Proofs.YthgenmkengbmmaaGreatDoor.AM
