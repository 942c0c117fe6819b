/- Rc -/
import Derived.Test.YthgenmkengbmmaaGreatDoorCGo
import Derived.Test.YthgenmkengbmmaaGreatDoorCRb
set_option linter.all false
namespace Go.Proofs.YthgenmkengbmmaaGreatDoor.AM
open Go Go.Proofs
set_option maxRecDepth 20000
set_option maxHeartbeats 4000000
theorem mZ:aU Tryz.prog 125=true:=by kernel_rfl
theorem mC {a0:Int}{a1:Str}{a2:bD}{r:Bool × bD} (hm:cX a0 a1 a2=some r):dE Tryz.prog 125 [.ptr 0 0,vI a0,vS a1] [.box [sl aB a2.l,vI a2.i,vS a2.r.Name,vS a2.r.E.S.Name,sl aH a2.r.E.S.M,vI a2.r.E.Op,vI a2.r.E.V,vI a2.r.For,vI a2.r.Keep,sl aK a2.r.Labels]] (vB r.1) [.box [sl aB r.2.l,vI r.2.i,vS r.2.r.Name,vS r.2.r.E.S.Name,sl aH r.2.r.E.S.M,vI r.2.r.E.Op,vI r.2.r.E.V,vI r.2.r.For,vI r.2.r.Keep,sl aK r.2.r.Labels]]:=by
 have c1:=@tB
 have e1:=uH
 refine dE.of_model (oin:=[.box [sl aB a2.l,vI a2.i,vS a2.r.Name,vS a2.r.E.S.Name,sl aH a2.r.E.S.M,vI a2.r.E.Op,vI a2.r.E.V,vI a2.r.For,vI a2.r.Keep,sl aK a2.r.Labels]]) (X:=fun r=>vB r.1) (O:=fun r=>[.box [sl aB r.2.l,vI r.2.i,vS r.2.r.Name,vS r.2.r.E.S.Name,sl aH r.2.r.E.S.M,vI r.2.r.E.Op,vI r.2.r.E.V,vI r.2.r.For,vI r.2.r.Keep,sl aK r.2.r.Labels]]) Tryz.func125 rfl (Nat.le_of_ble_eq_true (by kernel_rfl)) hm (n0:=1) rfl ?_
 simp only [Tryz.ntmps125,Tryz.results125,bF]
 unfold cX
 clear hm
 exact walk
theorem gO:aU Tryz.prog 127=true:=by kernel_rfl
theorem gD {a0:bD}{r:Int} (hm:cN a0=some r):dE Tryz.prog 127 [.ptr 0 0] [.box [sl aB a0.l,vI a0.i,vS a0.r.Name,vS a0.r.E.S.Name,sl aH a0.r.E.S.M,vI a0.r.E.Op,vI a0.r.E.V,vI a0.r.For,vI a0.r.Keep,sl aK a0.r.Labels]] (vI r) [.box [sl aB a0.l,vI a0.i,vS a0.r.Name,vS a0.r.E.S.Name,sl aH a0.r.E.S.M,vI a0.r.E.Op,vI a0.r.E.V,vI a0.r.For,vI a0.r.Keep,sl aK a0.r.Labels]]:=by
 refine dE.of_model (oin:=[.box [sl aB a0.l,vI a0.i,vS a0.r.Name,vS a0.r.E.S.Name,sl aH a0.r.E.S.M,vI a0.r.E.Op,vI a0.r.E.V,vI a0.r.For,vI a0.r.Keep,sl aK a0.r.Labels]]) (X:=fun r=>vI r) (O:=fun r=>[.box [sl aB a0.l,vI a0.i,vS a0.r.Name,vS a0.r.E.S.Name,sl aH a0.r.E.S.M,vI a0.r.E.Op,vI a0.r.E.V,vI a0.r.For,vI a0.r.Keep,sl aK a0.r.Labels]]) Tryz.func127 rfl (Nat.le_of_ble_eq_true (by kernel_rfl)) hm (n0:=1) rfl ?_
 simp only [Tryz.ntmps127,Tryz.results127,bF]
 unfold cN
 clear hm
 exact walk
theorem Qb:aU Tryz.prog 142=true:=by kernel_rfl
theorem Nr {a0:(List aN)}{a1:Int}{a2:Str}{r:Bool} (hm:sM a0 a1 a2=some r):Fun Tryz.prog 142 [(sl aB) a0,vI a1,vS a2] (vB r) []:=by
 refine Fun.of_model (X:=fun r=>vB r) (O:=fun r=>[]) Tryz.func142 rfl (Nat.le_of_ble_eq_true (by kernel_rfl)) hm ?_
 simp only [Tryz.ntmps142,Tryz.results142,bF]
 unfold sM
 clear hm
 exact walk
theorem o5:aU Tryz.prog 172=true:=by kernel_rfl
theorem oL {a0:Int}{a1:cF}{r:Bool} (hm:fQ a0 a1=some r):dE Tryz.prog 172 [.ptr 0 0,vI a0] [.box [sl aB a1.l,vI a1.i]] (vB r) [.box [sl aB a1.l,vI a1.i]]:=by
 refine dE.of_model (oin:=[.box [sl aB a1.l,vI a1.i]]) (X:=fun r=>vB r) (O:=fun r=>[.box [sl aB a1.l,vI a1.i]]) Tryz.func172 rfl (Nat.le_of_ble_eq_true (by kernel_rfl)) hm (n0:=1) rfl ?_
 simp only [Tryz.ntmps172,Tryz.results172,bF]
 unfold fQ
 clear hm
 exact walk
theorem m0:aU Tryz.prog 167=true:=by kernel_rfl
theorem mH {a0:cF}{r:Int} (hm:dS a0=some r):dE Tryz.prog 167 [.ptr 0 0] [.box [sl aB a0.l,vI a0.i]] (vI r) [.box [sl aB a0.l,vI a0.i]]:=by
 refine dE.of_model (oin:=[.box [sl aB a0.l,vI a0.i]]) (X:=fun r=>vI r) (O:=fun r=>[.box [sl aB a0.l,vI a0.i]]) Tryz.func167 rfl (Nat.le_of_ble_eq_true (by kernel_rfl)) hm (n0:=1) rfl ?_
 simp only [Tryz.ntmps167,Tryz.results167,bF]
 unfold dS
 clear hm
 exact walk
theorem tA:aU Tryz.prog 164=true:=by kernel_rfl
theorem sD {a0:cF}{r:Str × Int × cF} (hm:i7 a0=some r):dE Tryz.prog 164 [.ptr 0 0] [.box [sl aB a0.l,vI a0.i]] (.tup [vS r.1,vI r.2.1]) [.box [sl aB r.2.2.l,vI r.2.2.i]]:=by
 have c1:=@mH
 have e1:=m0
 have c2:=@oL
 have e2:=o5
 have c3:=@f7
 have e3:=gV
 refine dE.of_model (oin:=[.box [sl aB a0.l,vI a0.i]]) (X:=fun r=>.tup [vS r.1,vI r.2.1]) (O:=fun r=>[.box [sl aB r.2.2.l,vI r.2.2.i]]) Tryz.func164 rfl (Nat.le_of_ble_eq_true (by kernel_rfl)) hm (n0:=1) rfl ?_
 simp only [Tryz.ntmps164,Tryz.results164,bF]
 unfold i7
 clear hm
 exact walk
theorem tC:aU Tryz.prog 165=true:=by kernel_rfl
theorem r5 {a0:Str}{a1:cF}{r:Bool × cF} (hm:d8 a0 a1=some r):dE Tryz.prog 165 [.ptr 0 0,vS a0] [.box [sl aB a1.l,vI a1.i]] (vB r.1) [.box [sl aB r.2.l,vI r.2.i]]:=by
 have c1:=@oL
 have e1:=o5
 refine dE.of_model (oin:=[.box [sl aB a1.l,vI a1.i]]) (X:=fun r=>vB r.1) (O:=fun r=>[.box [sl aB r.2.l,vI r.2.i]]) Tryz.func165 rfl (Nat.le_of_ble_eq_true (by kernel_rfl)) hm (n0:=1) rfl ?_
 simp only [Tryz.ntmps165,Tryz.results165,bF]
 unfold d8
 clear hm
 exact walk
theorem BP:aU Tryz.prog 166=true:=by kernel_rfl
theorem A9 {a0:Int}{a1:cF}{r:bS × Int × cF} (hm:jU a0 a1=some r):dE Tryz.prog 166 [.ptr 0 0,vI a0] [.box [sl aB a1.l,vI a1.i]] (.tup [(ag aH) r.1,vI r.2.1]) [.box [sl aB r.2.2.l,vI r.2.2.i]]:=by
 have c1:=@sD
 have e1:=tA
 have c2:=@r5
 have e2:=tC
 have c3:=@mH
 have e3:=m0
 have c4:=@oL
 have e4:=o5
 refine dE.of_model (oin:=[.box [sl aB a1.l,vI a1.i]]) (X:=fun r=>.tup [(ag aH) r.1,vI r.2.1]) (O:=fun r=>[.box [sl aB r.2.2.l,vI r.2.2.i]]) Tryz.func166 rfl (Nat.le_of_ble_eq_true (by kernel_rfl)) hm (n0:=1) rfl ?_
 simp only [Tryz.ntmps166,Tryz.results166,bF]
 unfold jU
 clear hm
 exact walk
theorem DJ:aU Tryz.prog 153=true:=by kernel_rfl
theorem CA {a0:cF}{r:cT × Int × cF} (hm:kX a0=some r):dE Tryz.prog 153 [.ptr 0 0] [.box [sl aB a0.l,vI a0.i]] (.tup [(ag rI) r.1,vI r.2.1]) [.box [sl aB r.2.2.l,vI r.2.2.i]]:=by
 have c1:=@sD
 have e1:=tA
 have c2:=@r5
 have e2:=tC
 have c3:=@A9
 have e3:=BP
 have c4:=@mH
 have e4:=m0
 refine dE.of_model (oin:=[.box [sl aB a0.l,vI a0.i]]) (X:=fun r=>.tup [(ag rI) r.1,vI r.2.1]) (O:=fun r=>[.box [sl aB r.2.2.l,vI r.2.2.i]]) Tryz.func153 rfl (Nat.le_of_ble_eq_true (by kernel_rfl)) hm (n0:=1) rfl ?_
 simp only [Tryz.ntmps153,Tryz.results153,bF]
 unfold kX
 clear hm
 exact walk
theorem Nj:aU Tryz.prog 143=true:=by kernel_rfl
theorem KC {a0:(List aN)}{a1:Int}{r:cT × Int × Int} (hm:wP a0 a1=some r):Fun Tryz.prog 143 [(sl aB) a0,vI a1] (.tup [(ag rI) r.1,vI r.2.1,vI r.2.2]) []:=by
 have c1:=@CA
 have e1:=DJ
 refine Fun.of_model (X:=fun r=>.tup [(ag rI) r.1,vI r.2.1,vI r.2.2]) (O:=fun r=>[]) Tryz.func143 rfl (Nat.le_of_ble_eq_true (by kernel_rfl)) hm ?_
 simp only [Tryz.ntmps143,Tryz.results143,bF]
 unfold wP
 clear hm
 exact walk
theorem Ea:aU Tryz.prog 70=true:=by kernel_rfl
theorem DE {a0:Int}{r:Bool} (hm:pA a0=some r):Fun Tryz.prog 70 [vI a0] (vB r) []:=by
 refine Fun.of_model (X:=fun r=>vB r) (O:=fun r=>[]) Tryz.func70 rfl (Nat.le_of_ble_eq_true (by kernel_rfl)) hm ?_
 simp only [Tryz.ntmps70,Tryz.results70,bF]
 unfold pA
 clear hm
 exact walk
theorem Kp:aU Tryz.prog 144=true:=by kernel_rfl
theorem Jl {a0:(List aN)}{a1:Int}{r:Int} (hm:kM a0 a1=some r):Fun Tryz.prog 144 [(sl aB) a0,vI a1] (vI r) []:=by
 refine Fun.of_model (X:=fun r=>vI r) (O:=fun r=>[]) Tryz.func144 rfl (Nat.le_of_ble_eq_true (by kernel_rfl)) hm ?_
 simp only [Tryz.ntmps144,Tryz.results144,bF]
 unfold kM
 clear hm
 exact walk
end Go.Proofs.YthgenmkengbmmaaGreatDoor.AM
