/- Rc -/
import Derived.Test.YthgenmkengbmmaaGreatDoorGo
import Derived.Test.YthgenmkengbmmaaGreatDoorRb
set_option linter.all false
namespace Go.Proofs.YthgenmkengbmmaaGreatDoor.AM
open Go Go.Proofs
set_option maxRecDepth 20000
set_option maxHeartbeats 4000000
theorem mG:aW Tryz.prog 125=true:=by kernel_rfl
theorem lY {a0:Int}{a1:Str}{a2:aX}{r:Bool × aX} (hm:cR a0 a1 a2=some r):cW Tryz.prog 125 [.ptr 0 0,vI a0,vS a1] [.box [sl aB a2.l,vI a2.i,vS a2.r.Name,vS a2.r.E.S.Name,sl aF a2.r.E.S.M,vI a2.r.E.Op,vI a2.r.E.V,vI a2.r.For,vI a2.r.Keep,sl aJ a2.r.Labels]] (vB r.1) [.box [sl aB r.2.l,vI r.2.i,vS r.2.r.Name,vS r.2.r.E.S.Name,sl aF r.2.r.E.S.M,vI r.2.r.E.Op,vI r.2.r.E.V,vI r.2.r.For,vI r.2.r.Keep,sl aJ r.2.r.Labels]]:=by
 have c1:=@sX
 have e1:=s4
 refine cW.of_model (oin:=[.box [sl aB a2.l,vI a2.i,vS a2.r.Name,vS a2.r.E.S.Name,sl aF a2.r.E.S.M,vI a2.r.E.Op,vI a2.r.E.V,vI a2.r.For,vI a2.r.Keep,sl aJ a2.r.Labels]]) (X:=fun r=>vB r.1) (O:=fun r=>[.box [sl aB r.2.l,vI r.2.i,vS r.2.r.Name,vS r.2.r.E.S.Name,sl aF r.2.r.E.S.M,vI r.2.r.E.Op,vI r.2.r.E.V,vI r.2.r.For,vI r.2.r.Keep,sl aJ r.2.r.Labels]]) Tryz.func125 rfl (Nat.le_of_ble_eq_true (by kernel_rfl)) hm (n0:=1) rfl ?_
 simp only [Tryz.ntmps125,Tryz.results125,bD]
 unfold cR
 clear hm
 exact walk
theorem gQ:aW Tryz.prog 127=true:=by kernel_rfl
theorem gA {a0:aX}{r:Int} (hm:cF a0=some r):cW Tryz.prog 127 [.ptr 0 0] [.box [sl aB a0.l,vI a0.i,vS a0.r.Name,vS a0.r.E.S.Name,sl aF a0.r.E.S.M,vI a0.r.E.Op,vI a0.r.E.V,vI a0.r.For,vI a0.r.Keep,sl aJ a0.r.Labels]] (vI r) [.box [sl aB a0.l,vI a0.i,vS a0.r.Name,vS a0.r.E.S.Name,sl aF a0.r.E.S.M,vI a0.r.E.Op,vI a0.r.E.V,vI a0.r.For,vI a0.r.Keep,sl aJ a0.r.Labels]]:=by
 refine cW.of_model (oin:=[.box [sl aB a0.l,vI a0.i,vS a0.r.Name,vS a0.r.E.S.Name,sl aF a0.r.E.S.M,vI a0.r.E.Op,vI a0.r.E.V,vI a0.r.For,vI a0.r.Keep,sl aJ a0.r.Labels]]) (X:=fun r=>vI r) (O:=fun r=>[.box [sl aB a0.l,vI a0.i,vS a0.r.Name,vS a0.r.E.S.Name,sl aF a0.r.E.S.M,vI a0.r.E.Op,vI a0.r.E.V,vI a0.r.For,vI a0.r.Keep,sl aJ a0.r.Labels]]) Tryz.func127 rfl (Nat.le_of_ble_eq_true (by kernel_rfl)) hm (n0:=1) rfl ?_
 simp only [Tryz.ntmps127,Tryz.results127,bD]
 unfold cF
 clear hm
 exact walk
theorem NR:aW Tryz.prog 142=true:=by kernel_rfl
theorem L8 {a0:(List aL)}{a1:Int}{a2:Str}{r:Bool} (hm:rC a0 a1 a2=some r):Fun Tryz.prog 142 [(sl aB) a0,vI a1,vS a2] (vB r) []:=by
 refine Fun.of_model (X:=fun r=>vB r) (O:=fun r=>[]) Tryz.func142 rfl (Nat.le_of_ble_eq_true (by kernel_rfl)) hm ?_
 simp only [Tryz.ntmps142,Tryz.results142,bD]
 unfold rC
 clear hm
 exact walk
theorem oE:aW Tryz.prog 172=true:=by kernel_rfl
theorem nL {a0:Int}{a1:b9}{r:Bool} (hm:fJ a0 a1=some r):cW Tryz.prog 172 [.ptr 0 0,vI a0] [.box [sl aB a1.l,vI a1.i]] (vB r) [.box [sl aB a1.l,vI a1.i]]:=by
 refine cW.of_model (oin:=[.box [sl aB a1.l,vI a1.i]]) (X:=fun r=>vB r) (O:=fun r=>[.box [sl aB a1.l,vI a1.i]]) Tryz.func172 rfl (Nat.le_of_ble_eq_true (by kernel_rfl)) hm (n0:=1) rfl ?_
 simp only [Tryz.ntmps172,Tryz.results172,bD]
 unfold fJ
 clear hm
 exact walk
theorem mA:aW Tryz.prog 167=true:=by kernel_rfl
theorem l6 {a0:b9}{r:Int} (hm:dU a0=some r):cW Tryz.prog 167 [.ptr 0 0] [.box [sl aB a0.l,vI a0.i]] (vI r) [.box [sl aB a0.l,vI a0.i]]:=by
 refine cW.of_model (oin:=[.box [sl aB a0.l,vI a0.i]]) (X:=fun r=>vI r) (O:=fun r=>[.box [sl aB a0.l,vI a0.i]]) Tryz.func167 rfl (Nat.le_of_ble_eq_true (by kernel_rfl)) hm (n0:=1) rfl ?_
 simp only [Tryz.ntmps167,Tryz.results167,bD]
 unfold dU
 clear hm
 exact walk
theorem sF:aW Tryz.prog 164=true:=by kernel_rfl
theorem rD {a0:b9}{r:Str × Int × b9} (hm:iT a0=some r):cW Tryz.prog 164 [.ptr 0 0] [.box [sl aB a0.l,vI a0.i]] (.tup [vS r.1,vI r.2.1]) [.box [sl aB r.2.2.l,vI r.2.2.i]]:=by
 have c1:=@l6
 have e1:=mA
 have c2:=@nL
 have e2:=oE
 have c3:=@f8
 have e3:=gV
 refine cW.of_model (oin:=[.box [sl aB a0.l,vI a0.i]]) (X:=fun r=>.tup [vS r.1,vI r.2.1]) (O:=fun r=>[.box [sl aB r.2.2.l,vI r.2.2.i]]) Tryz.func164 rfl (Nat.le_of_ble_eq_true (by kernel_rfl)) hm (n0:=1) rfl ?_
 simp only [Tryz.ntmps164,Tryz.results164,bD]
 unfold iT
 clear hm
 exact walk
theorem sQ:aW Tryz.prog 165=true:=by kernel_rfl
theorem rA {a0:Str}{a1:b9}{r:Bool × b9} (hm:d5 a0 a1=some r):cW Tryz.prog 165 [.ptr 0 0,vS a0] [.box [sl aB a1.l,vI a1.i]] (vB r.1) [.box [sl aB r.2.l,vI r.2.i]]:=by
 have c1:=@nL
 have e1:=oE
 refine cW.of_model (oin:=[.box [sl aB a1.l,vI a1.i]]) (X:=fun r=>vB r.1) (O:=fun r=>[.box [sl aB r.2.l,vI r.2.i]]) Tryz.func165 rfl (Nat.le_of_ble_eq_true (by kernel_rfl)) hm (n0:=1) rfl ?_
 simp only [Tryz.ntmps165,Tryz.results165,bD]
 unfold d5
 clear hm
 exact walk
theorem Bg:aW Tryz.prog 166=true:=by kernel_rfl
theorem Ar {a0:Int}{a1:b9}{r:bI × Int × b9} (hm:jL a0 a1=some r):cW Tryz.prog 166 [.ptr 0 0,vI a0] [.box [sl aB a1.l,vI a1.i]] (.tup [(ag aF) r.1,vI r.2.1]) [.box [sl aB r.2.2.l,vI r.2.2.i]]:=by
 have c1:=@rD
 have e1:=sF
 have c2:=@rA
 have e2:=sQ
 have c3:=@l6
 have e3:=mA
 have c4:=@nL
 have e4:=oE
 refine cW.of_model (oin:=[.box [sl aB a1.l,vI a1.i]]) (X:=fun r=>.tup [(ag aF) r.1,vI r.2.1]) (O:=fun r=>[.box [sl aB r.2.2.l,vI r.2.2.i]]) Tryz.func166 rfl (Nat.le_of_ble_eq_true (by kernel_rfl)) hm (n0:=1) rfl ?_
 simp only [Tryz.ntmps166,Tryz.results166,bD]
 unfold jL
 clear hm
 exact walk
theorem Cv:aW Tryz.prog 153=true:=by kernel_rfl
theorem B0 {a0:b9}{r:cN × Int × b9} (hm:kR a0=some r):cW Tryz.prog 153 [.ptr 0 0] [.box [sl aB a0.l,vI a0.i]] (.tup [(ag qH) r.1,vI r.2.1]) [.box [sl aB r.2.2.l,vI r.2.2.i]]:=by
 have c1:=@rD
 have e1:=sF
 have c2:=@rA
 have e2:=sQ
 have c3:=@Ar
 have e3:=Bg
 have c4:=@l6
 have e4:=mA
 refine cW.of_model (oin:=[.box [sl aB a0.l,vI a0.i]]) (X:=fun r=>.tup [(ag qH) r.1,vI r.2.1]) (O:=fun r=>[.box [sl aB r.2.2.l,vI r.2.2.i]]) Tryz.func153 rfl (Nat.le_of_ble_eq_true (by kernel_rfl)) hm (n0:=1) rfl ?_
 simp only [Tryz.ntmps153,Tryz.results153,bD]
 unfold kR
 clear hm
 exact walk
theorem JD:aW Tryz.prog 143=true:=by kernel_rfl
theorem I3 {a0:(List aL)}{a1:Int}{r:cN × Int × Int} (hm:uZ a0 a1=some r):Fun Tryz.prog 143 [(sl aB) a0,vI a1] (.tup [(ag qH) r.1,vI r.2.1,vI r.2.2]) []:=by
 have c1:=@B0
 have e1:=Cv
 refine Fun.of_model (X:=fun r=>.tup [(ag qH) r.1,vI r.2.1,vI r.2.2]) (O:=fun r=>[]) Tryz.func143 rfl (Nat.le_of_ble_eq_true (by kernel_rfl)) hm ?_
 simp only [Tryz.ntmps143,Tryz.results143,bD]
 unfold uZ
 clear hm
 exact walk
theorem C0:aW Tryz.prog 70=true:=by kernel_rfl
theorem Cr {a0:Int}{r:Bool} (hm:oL a0=some r):Fun Tryz.prog 70 [vI a0] (vB r) []:=by
 refine Fun.of_model (X:=fun r=>vB r) (O:=fun r=>[]) Tryz.func70 rfl (Nat.le_of_ble_eq_true (by kernel_rfl)) hm ?_
 simp only [Tryz.ntmps70,Tryz.results70,bD]
 unfold oL
 clear hm
 exact walk
theorem IQ:aW Tryz.prog 144=true:=by kernel_rfl
theorem GX {a0:(List aL)}{a1:Int}{r:Int} (hm:kC a0 a1=some r):Fun Tryz.prog 144 [(sl aB) a0,vI a1] (vI r) []:=by
 refine Fun.of_model (X:=fun r=>vI r) (O:=fun r=>[]) Tryz.func144 rfl (Nat.le_of_ble_eq_true (by kernel_rfl)) hm ?_
 simp only [Tryz.ntmps144,Tryz.results144,bD]
 unfold kC
 clear hm
 exact walk
end Go.Proofs.YthgenmkengbmmaaGreatDoor.AM
