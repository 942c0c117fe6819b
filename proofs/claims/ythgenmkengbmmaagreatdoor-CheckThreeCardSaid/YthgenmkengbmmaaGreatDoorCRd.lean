/- Rd -/
import Derived.Test.YthgenmkengbmmaaGreatDoorCGo
import Derived.Test.YthgenmkengbmmaaGreatDoorCRb
import Derived.Test.YthgenmkengbmmaaGreatDoorCRc
set_option linter.all false
namespace Go.Proofs.YthgenmkengbmmaaGreatDoor.AM
open Go Go.Proofs
set_option maxRecDepth 20000
set_option maxHeartbeats 4000000
theorem yU:aU Tryz.prog 168=true:=by kernel_rfl
theorem xQ {a0:Str}{a1:Str}{r:Str × Bool} (hm:j6 a0 a1=some r):Fun Tryz.prog 168 [vS a0,vS a1] (.tup [vS r.1,vB r.2]) []:=by
 have c1:=@oQ
 have e1:=pL
 refine Fun.of_model (X:=fun r=>.tup [vS r.1,vB r.2]) (O:=fun r=>[]) Tryz.func168 rfl (Nat.le_of_ble_eq_true (by kernel_rfl)) hm ?_
 simp only [Tryz.ntmps168,Tryz.results168,bF]
 unfold j6
 clear hm
 exact walk
theorem C5:aU Tryz.prog 154=true:=by kernel_rfl
theorem Bp {a0:Str}{a1:Str}{r:Str × Bool} (hm:kJ a0 a1=some r):Fun Tryz.prog 154 [vS a0,vS a1] (.tup [vS r.1,vB r.2]) []:=by
 have c1:=@xQ
 have e1:=yU
 refine Fun.of_model (X:=fun r=>.tup [vS r.1,vB r.2]) (O:=fun r=>[]) Tryz.func154 rfl (Nat.le_of_ble_eq_true (by kernel_rfl)) hm ?_
 simp only [Tryz.ntmps154,Tryz.results154,bF]
 unfold kJ
 clear hm
 exact walk
theorem NM:aU Tryz.prog 155=true:=by kernel_rfl
theorem Nb {a0:Int}{a1:Int}{r:Int} (hm:rO a0 a1=some r):Fun Tryz.prog 155 [vI a0,vI a1] (vI r) []:=by
 refine Fun.of_model (X:=fun r=>vI r) (O:=fun r=>[]) Tryz.func155 rfl (Nat.le_of_ble_eq_true (by kernel_rfl)) hm ?_
 simp only [Tryz.ntmps155,Tryz.results155,bF]
 unfold rO
 clear hm
 exact walk
theorem Bf:aU Tryz.prog 71=true:=by kernel_rfl
theorem zO {a0:Int}{r:Bool} (hm:pG a0=some r):Fun Tryz.prog 71 [vI a0] (vB r) []:=by
 refine Fun.of_model (X:=fun r=>vB r) (O:=fun r=>[]) Tryz.func71 rfl (Nat.le_of_ble_eq_true (by kernel_rfl)) hm ?_
 simp only [Tryz.ntmps71,Tryz.results71,bF]
 unfold pG
 clear hm
 exact walk
theorem Lr:aU Tryz.prog 145=true:=by kernel_rfl
theorem KH {a0:Str}{r:Int × Int} (hm:wF a0=some r):Fun Tryz.prog 145 [vS a0] (.tup [vI r.1,vI r.2]) []:=by
 have c1:=@Bp
 have e1:=C5
 have c2:=@Nb
 have e2:=NM
 have c3:=@zO
 have e3:=Bf
 refine Fun.of_model (X:=fun r=>.tup [vI r.1,vI r.2]) (O:=fun r=>[]) Tryz.func145 rfl (Nat.le_of_ble_eq_true (by kernel_rfl)) hm ?_
 simp only [Tryz.ntmps145,Tryz.results145,bF]
 unfold wF
 clear hm
 exact walk
theorem KM:aU Tryz.prog 128=true:=by kernel_rfl
theorem Jv {a0:(List aN)}{a1:Int}{r:cG × Int × Int} (hm:sX a0 a1=some r):Fun Tryz.prog 128 [(sl aB) a0,vI a1] (.tup [(ag wC) r.1,vI r.2.1,vI r.2.2]) []:=by
 have c1:=@Nr
 have e1:=Qb
 have c2:=@KC
 have e2:=Nj
 have c3:=@Jl
 have e3:=Kp
 have c4:=@KH
 have e4:=Lr
 have c5:=@DE
 have e5:=Ea
 have gr1:=Ok
 refine Fun.of_model (X:=fun r=>.tup [(ag wC) r.1,vI r.2.1,vI r.2.2]) (O:=fun r=>[]) Tryz.func128 rfl (Nat.le_of_ble_eq_true (by kernel_rfl)) hm ?_
 simp only [Tryz.ntmps128,Tryz.results128,bF]
 unfold sX
 clear hm
 exact walk
theorem xL:aU Tryz.prog 130=true:=by kernel_rfl
theorem w9 {a0:bD}{r:Int × bD} (hm:gS a0=some r):dE Tryz.prog 130 [.ptr 0 0,.ptr 0 7] [.box [sl aB a0.l,vI a0.i,vS a0.r.Name,vS a0.r.E.S.Name,sl aH a0.r.E.S.M,vI a0.r.E.Op,vI a0.r.E.V,vI a0.r.For,vI a0.r.Keep,sl aK a0.r.Labels]] (vI r.1) [.box [sl aB r.2.l,vI r.2.i,vS r.2.r.Name,vS r.2.r.E.S.Name,sl aH r.2.r.E.S.M,vI r.2.r.E.Op,vI r.2.r.E.V,vI r.2.r.For,vI r.2.r.Keep,sl aK r.2.r.Labels]]:=by
 have c1:=@gT
 have e1:=iI
 have c2:=@gD
 have e2:=gO
 have c3:=@rJ
 have e3:=tF
 refine dE.of_model (oin:=[.box [sl aB a0.l,vI a0.i,vS a0.r.Name,vS a0.r.E.S.Name,sl aH a0.r.E.S.M,vI a0.r.E.Op,vI a0.r.E.V,vI a0.r.For,vI a0.r.Keep,sl aK a0.r.Labels]]) (X:=fun r=>vI r.1) (O:=fun r=>[.box [sl aB r.2.l,vI r.2.i,vS r.2.r.Name,vS r.2.r.E.S.Name,sl aH r.2.r.E.S.M,vI r.2.r.E.Op,vI r.2.r.E.V,vI r.2.r.For,vI r.2.r.Keep,sl aK r.2.r.Labels]]) Tryz.func130 rfl (Nat.le_of_ble_eq_true (by kernel_rfl)) hm (n0:=1) rfl ?_
 simp only [Tryz.ntmps130,Tryz.results130,bF]
 unfold gS
 clear hm
 exact walk
theorem Ac:aU Tryz.prog 129=true:=by kernel_rfl
theorem zM {a0:bD}{r:Int × bD} (hm:iY a0=some r):dE Tryz.prog 129 [.ptr 0 0] [.box [.ptr 1 0],.box [sl aB a0.l,vI a0.i,vS a0.r.Name,vS a0.r.E.S.Name,sl aH a0.r.E.S.M,vI a0.r.E.Op,vI a0.r.E.V,vI a0.r.For,vI a0.r.Keep,sl aK a0.r.Labels]] (vI r.1) [.box [.ptr 1 0],.box [sl aB r.2.l,vI r.2.i,vS r.2.r.Name,vS r.2.r.E.S.Name,sl aH r.2.r.E.S.M,vI r.2.r.E.Op,vI r.2.r.E.V,vI r.2.r.For,vI r.2.r.Keep,sl aK r.2.r.Labels]]:=by
 have c1:=@w9
 have e1:=xL
 refine dE.of_model (oin:=[.box [.ptr 1 0],.box [sl aB a0.l,vI a0.i,vS a0.r.Name,vS a0.r.E.S.Name,sl aH a0.r.E.S.M,vI a0.r.E.Op,vI a0.r.E.V,vI a0.r.For,vI a0.r.Keep,sl aK a0.r.Labels]]) (X:=fun r=>vI r.1) (O:=fun r=>[.box [.ptr 1 0],.box [sl aB r.2.l,vI r.2.i,vS r.2.r.Name,vS r.2.r.E.S.Name,sl aH r.2.r.E.S.M,vI r.2.r.E.Op,vI r.2.r.E.V,vI r.2.r.For,vI r.2.r.Keep,sl aK r.2.r.Labels]]) Tryz.func129 rfl (Nat.le_of_ble_eq_true (by kernel_rfl)) hm (n0:=2) rfl ?_
 simp only [Tryz.ntmps129,Tryz.results129,bF]
 unfold iY
 clear hm
 exact walk
theorem xD:aU Tryz.prog 130=true:=by kernel_rfl
theorem wS {a0:bD}{r:Int × bD} (hm:gE a0=some r):dE Tryz.prog 130 [.ptr 0 0,.ptr 0 8] [.box [sl aB a0.l,vI a0.i,vS a0.r.Name,vS a0.r.E.S.Name,sl aH a0.r.E.S.M,vI a0.r.E.Op,vI a0.r.E.V,vI a0.r.For,vI a0.r.Keep,sl aK a0.r.Labels]] (vI r.1) [.box [sl aB r.2.l,vI r.2.i,vS r.2.r.Name,vS r.2.r.E.S.Name,sl aH r.2.r.E.S.M,vI r.2.r.E.Op,vI r.2.r.E.V,vI r.2.r.For,vI r.2.r.Keep,sl aK r.2.r.Labels]]:=by
 have c1:=@gT
 have e1:=iI
 have c2:=@gD
 have e2:=gO
 have c3:=@rJ
 have e3:=tF
 refine dE.of_model (oin:=[.box [sl aB a0.l,vI a0.i,vS a0.r.Name,vS a0.r.E.S.Name,sl aH a0.r.E.S.M,vI a0.r.E.Op,vI a0.r.E.V,vI a0.r.For,vI a0.r.Keep,sl aK a0.r.Labels]]) (X:=fun r=>vI r.1) (O:=fun r=>[.box [sl aB r.2.l,vI r.2.i,vS r.2.r.Name,vS r.2.r.E.S.Name,sl aH r.2.r.E.S.M,vI r.2.r.E.Op,vI r.2.r.E.V,vI r.2.r.For,vI r.2.r.Keep,sl aK r.2.r.Labels]]) Tryz.func130 rfl (Nat.le_of_ble_eq_true (by kernel_rfl)) hm (n0:=1) rfl ?_
 simp only [Tryz.ntmps130,Tryz.results130,bF]
 unfold gE
 clear hm
 exact walk
theorem Ad:aU Tryz.prog 131=true:=by kernel_rfl
theorem zU {a0:bD}{r:Int × bD} (hm:iO a0=some r):dE Tryz.prog 131 [.ptr 0 0] [.box [.ptr 1 0],.box [sl aB a0.l,vI a0.i,vS a0.r.Name,vS a0.r.E.S.Name,sl aH a0.r.E.S.M,vI a0.r.E.Op,vI a0.r.E.V,vI a0.r.For,vI a0.r.Keep,sl aK a0.r.Labels]] (vI r.1) [.box [.ptr 1 0],.box [sl aB r.2.l,vI r.2.i,vS r.2.r.Name,vS r.2.r.E.S.Name,sl aH r.2.r.E.S.M,vI r.2.r.E.Op,vI r.2.r.E.V,vI r.2.r.For,vI r.2.r.Keep,sl aK r.2.r.Labels]]:=by
 have c1:=@wS
 have e1:=xD
 refine dE.of_model (oin:=[.box [.ptr 1 0],.box [sl aB a0.l,vI a0.i,vS a0.r.Name,vS a0.r.E.S.Name,sl aH a0.r.E.S.M,vI a0.r.E.Op,vI a0.r.E.V,vI a0.r.For,vI a0.r.Keep,sl aK a0.r.Labels]]) (X:=fun r=>vI r.1) (O:=fun r=>[.box [.ptr 1 0],.box [sl aB r.2.l,vI r.2.i,vS r.2.r.Name,vS r.2.r.E.S.Name,sl aH r.2.r.E.S.M,vI r.2.r.E.Op,vI r.2.r.E.V,vI r.2.r.For,vI r.2.r.Keep,sl aK r.2.r.Labels]]) Tryz.func131 rfl (Nat.le_of_ble_eq_true (by kernel_rfl)) hm (n0:=2) rfl ?_
 simp only [Tryz.ntmps131,Tryz.results131,bF]
 unfold iO
 clear hm
 exact walk
theorem BF:aU Tryz.prog 146=true:=by kernel_rfl
theorem A7 {a0:bD}{r:aY × Int × bD} (hm:j3 a0=some r):dE Tryz.prog 146 [.ptr 0 0] [.box [sl aB a0.l,vI a0.i,vS a0.r.Name,vS a0.r.E.S.Name,sl aH a0.r.E.S.M,vI a0.r.E.Op,vI a0.r.E.V,vI a0.r.For,vI a0.r.Keep,sl aK a0.r.Labels]] (.tup [(ag aK) r.1,vI r.2.1]) [.box [sl aB r.2.2.l,vI r.2.2.i,vS r.2.2.r.Name,vS r.2.2.r.E.S.Name,sl aH r.2.2.r.E.S.M,vI r.2.2.r.E.Op,vI r.2.2.r.E.V,vI r.2.2.r.For,vI r.2.2.r.Keep,sl aK r.2.2.r.Labels]]:=by
 have c1:=@mC
 have e1:=mZ
 have c2:=@gT
 have e2:=iI
 have c3:=@gD
 have e3:=gO
 refine dE.of_model (oin:=[.box [sl aB a0.l,vI a0.i,vS a0.r.Name,vS a0.r.E.S.Name,sl aH a0.r.E.S.M,vI a0.r.E.Op,vI a0.r.E.V,vI a0.r.For,vI a0.r.Keep,sl aK a0.r.Labels]]) (X:=fun r=>.tup [(ag aK) r.1,vI r.2.1]) (O:=fun r=>[.box [sl aB r.2.2.l,vI r.2.2.i,vS r.2.2.r.Name,vS r.2.2.r.E.S.Name,sl aH r.2.2.r.E.S.M,vI r.2.2.r.E.Op,vI r.2.2.r.E.V,vI r.2.2.r.For,vI r.2.2.r.Keep,sl aK r.2.2.r.Labels]]) Tryz.func146 rfl (Nat.le_of_ble_eq_true (by kernel_rfl)) hm (n0:=1) rfl ?_
 simp only [Tryz.ntmps146,Tryz.results146,bF]
 unfold j3
 clear hm
 exact walk
theorem xY:aU Tryz.prog 156=true:=by kernel_rfl
theorem w4 {a0:(List aY)}{r:(List aY)} (hm:gN a0=some r):Fun Tryz.prog 156 [(sl aK) a0] (so 0 aK r) [tk r.length 2 87]:=by
 refine Fun.of_model (X:=fun r=>so 0 aK r) (O:=fun r=>[tk r.length 2 87]) Tryz.func156 rfl (Nat.le_of_ble_eq_true (by kernel_rfl)) hm ?_
 simp only [Tryz.ntmps156,Tryz.results156,bF]
 unfold gN
 clear hm
 exact walk
end Go.Proofs.YthgenmkengbmmaaGreatDoor.AM
