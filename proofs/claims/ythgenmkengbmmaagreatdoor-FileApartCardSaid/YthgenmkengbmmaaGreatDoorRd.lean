/- Rd -/
import Derived.Test.YthgenmkengbmmaaGreatDoorGo
import Derived.Test.YthgenmkengbmmaaGreatDoorRb
import Derived.Test.YthgenmkengbmmaaGreatDoorRc
set_option linter.all false
namespace Go.Proofs.YthgenmkengbmmaaGreatDoor.AM
open Go Go.Proofs
set_option maxRecDepth 20000
set_option maxHeartbeats 4000000
theorem yD:aW Tryz.prog 168=true:=by kernel_rfl
theorem wH {a0:Str}{a1:Str}{r:Str × Bool} (hm:jT a0 a1=some r):Fun Tryz.prog 168 [vS a0,vS a1] (.tup [vS r.1,vB r.2]) []:=by
 have c1:=@nQ
 have e1:=nY
 refine Fun.of_model (X:=fun r=>.tup [vS r.1,vB r.2]) (O:=fun r=>[]) Tryz.func168 rfl (Nat.le_of_ble_eq_true (by kernel_rfl)) hm ?_
 simp only [Tryz.ntmps168,Tryz.results168,bD]
 unfold jT
 clear hm
 exact walk
theorem BD:aW Tryz.prog 154=true:=by kernel_rfl
theorem AH {a0:Str}{a1:Str}{r:Str × Bool} (hm:j9 a0 a1=some r):Fun Tryz.prog 154 [vS a0,vS a1] (.tup [vS r.1,vB r.2]) []:=by
 have c1:=@wH
 have e1:=yD
 refine Fun.of_model (X:=fun r=>.tup [vS r.1,vB r.2]) (O:=fun r=>[]) Tryz.func154 rfl (Nat.le_of_ble_eq_true (by kernel_rfl)) hm ?_
 simp only [Tryz.ntmps154,Tryz.results154,bD]
 unfold j9
 clear hm
 exact walk
theorem L7:aW Tryz.prog 155=true:=by kernel_rfl
theorem Jk {a0:Int}{a1:Int}{r:Int} (hm:qW a0 a1=some r):Fun Tryz.prog 155 [vI a0,vI a1] (vI r) []:=by
 refine Fun.of_model (X:=fun r=>vI r) (O:=fun r=>[]) Tryz.func155 rfl (Nat.le_of_ble_eq_true (by kernel_rfl)) hm ?_
 simp only [Tryz.ntmps155,Tryz.results155,bD]
 unfold qW
 clear hm
 exact walk
theorem Ao:aW Tryz.prog 71=true:=by kernel_rfl
theorem yO {a0:Int}{r:Bool} (hm:oC a0=some r):Fun Tryz.prog 71 [vI a0] (vB r) []:=by
 refine Fun.of_model (X:=fun r=>vB r) (O:=fun r=>[]) Tryz.func71 rfl (Nat.le_of_ble_eq_true (by kernel_rfl)) hm ?_
 simp only [Tryz.ntmps71,Tryz.results71,bD]
 unfold oC
 clear hm
 exact walk
theorem K3:aW Tryz.prog 145=true:=by kernel_rfl
theorem I2 {a0:Str}{r:Int × Int} (hm:uO a0=some r):Fun Tryz.prog 145 [vS a0] (.tup [vI r.1,vI r.2]) []:=by
 have c1:=@AH
 have e1:=BD
 have c2:=@Jk
 have e2:=L7
 have c3:=@yO
 have e3:=Ao
 refine Fun.of_model (X:=fun r=>.tup [vI r.1,vI r.2]) (O:=fun r=>[]) Tryz.func145 rfl (Nat.le_of_ble_eq_true (by kernel_rfl)) hm ?_
 simp only [Tryz.ntmps145,Tryz.results145,bD]
 unfold uO
 clear hm
 exact walk
theorem I4:aW Tryz.prog 128=true:=by kernel_rfl
theorem HI {a0:(List aL)}{a1:Int}{r:bX × Int × Int} (hm:sG a0 a1=some r):Fun Tryz.prog 128 [(sl aB) a0,vI a1] (.tup [(ag uX) r.1,vI r.2.1,vI r.2.2]) []:=by
 have c1:=@L8
 have e1:=NR
 have c2:=@I3
 have e2:=JD
 have c3:=@GX
 have e3:=IQ
 have c4:=@I2
 have e4:=K3
 have c5:=@Cr
 have e5:=C0
 have gr1:=M8
 refine Fun.of_model (X:=fun r=>.tup [(ag uX) r.1,vI r.2.1,vI r.2.2]) (O:=fun r=>[]) Tryz.func128 rfl (Nat.le_of_ble_eq_true (by kernel_rfl)) hm ?_
 simp only [Tryz.ntmps128,Tryz.results128,bD]
 unfold sG
 clear hm
 exact walk
theorem wK:aW Tryz.prog 130=true:=by kernel_rfl
theorem vP {a0:aX}{r:Int × aX} (hm:gO a0=some r):cW Tryz.prog 130 [.ptr 0 0,.ptr 0 7] [.box [sl aB a0.l,vI a0.i,vS a0.r.Name,vS a0.r.E.S.Name,sl aF a0.r.E.S.M,vI a0.r.E.Op,vI a0.r.E.V,vI a0.r.For,vI a0.r.Keep,sl aJ a0.r.Labels]] (vI r.1) [.box [sl aB r.2.l,vI r.2.i,vS r.2.r.Name,vS r.2.r.E.S.Name,sl aF r.2.r.E.S.M,vI r.2.r.E.Op,vI r.2.r.E.V,vI r.2.r.For,vI r.2.r.Keep,sl aJ r.2.r.Labels]]:=by
 have c1:=@gL
 have e1:=hJ
 have c2:=@gA
 have e2:=gQ
 have c3:=@qG
 have e3:=rX
 refine cW.of_model (oin:=[.box [sl aB a0.l,vI a0.i,vS a0.r.Name,vS a0.r.E.S.Name,sl aF a0.r.E.S.M,vI a0.r.E.Op,vI a0.r.E.V,vI a0.r.For,vI a0.r.Keep,sl aJ a0.r.Labels]]) (X:=fun r=>vI r.1) (O:=fun r=>[.box [sl aB r.2.l,vI r.2.i,vS r.2.r.Name,vS r.2.r.E.S.Name,sl aF r.2.r.E.S.M,vI r.2.r.E.Op,vI r.2.r.E.V,vI r.2.r.For,vI r.2.r.Keep,sl aJ r.2.r.Labels]]) Tryz.func130 rfl (Nat.le_of_ble_eq_true (by kernel_rfl)) hm (n0:=1) rfl ?_
 simp only [Tryz.ntmps130,Tryz.results130,bD]
 unfold gO
 clear hm
 exact walk
theorem yT:aW Tryz.prog 129=true:=by kernel_rfl
theorem yQ {a0:aX}{r:Int × aX} (hm:iE a0=some r):cW Tryz.prog 129 [.ptr 0 0] [.box [.ptr 1 0],.box [sl aB a0.l,vI a0.i,vS a0.r.Name,vS a0.r.E.S.Name,sl aF a0.r.E.S.M,vI a0.r.E.Op,vI a0.r.E.V,vI a0.r.For,vI a0.r.Keep,sl aJ a0.r.Labels]] (vI r.1) [.box [.ptr 1 0],.box [sl aB r.2.l,vI r.2.i,vS r.2.r.Name,vS r.2.r.E.S.Name,sl aF r.2.r.E.S.M,vI r.2.r.E.Op,vI r.2.r.E.V,vI r.2.r.For,vI r.2.r.Keep,sl aJ r.2.r.Labels]]:=by
 have c1:=@vP
 have e1:=wK
 refine cW.of_model (oin:=[.box [.ptr 1 0],.box [sl aB a0.l,vI a0.i,vS a0.r.Name,vS a0.r.E.S.Name,sl aF a0.r.E.S.M,vI a0.r.E.Op,vI a0.r.E.V,vI a0.r.For,vI a0.r.Keep,sl aJ a0.r.Labels]]) (X:=fun r=>vI r.1) (O:=fun r=>[.box [.ptr 1 0],.box [sl aB r.2.l,vI r.2.i,vS r.2.r.Name,vS r.2.r.E.S.Name,sl aF r.2.r.E.S.M,vI r.2.r.E.Op,vI r.2.r.E.V,vI r.2.r.For,vI r.2.r.Keep,sl aJ r.2.r.Labels]]) Tryz.func129 rfl (Nat.le_of_ble_eq_true (by kernel_rfl)) hm (n0:=2) rfl ?_
 simp only [Tryz.ntmps129,Tryz.results129,bD]
 unfold iE
 clear hm
 exact walk
theorem vU:aW Tryz.prog 130=true:=by kernel_rfl
theorem uW {a0:aX}{r:Int × aX} (hm:gB a0=some r):cW Tryz.prog 130 [.ptr 0 0,.ptr 0 8] [.box [sl aB a0.l,vI a0.i,vS a0.r.Name,vS a0.r.E.S.Name,sl aF a0.r.E.S.M,vI a0.r.E.Op,vI a0.r.E.V,vI a0.r.For,vI a0.r.Keep,sl aJ a0.r.Labels]] (vI r.1) [.box [sl aB r.2.l,vI r.2.i,vS r.2.r.Name,vS r.2.r.E.S.Name,sl aF r.2.r.E.S.M,vI r.2.r.E.Op,vI r.2.r.E.V,vI r.2.r.For,vI r.2.r.Keep,sl aJ r.2.r.Labels]]:=by
 have c1:=@gL
 have e1:=hJ
 have c2:=@gA
 have e2:=gQ
 have c3:=@qG
 have e3:=rX
 refine cW.of_model (oin:=[.box [sl aB a0.l,vI a0.i,vS a0.r.Name,vS a0.r.E.S.Name,sl aF a0.r.E.S.M,vI a0.r.E.Op,vI a0.r.E.V,vI a0.r.For,vI a0.r.Keep,sl aJ a0.r.Labels]]) (X:=fun r=>vI r.1) (O:=fun r=>[.box [sl aB r.2.l,vI r.2.i,vS r.2.r.Name,vS r.2.r.E.S.Name,sl aF r.2.r.E.S.M,vI r.2.r.E.Op,vI r.2.r.E.V,vI r.2.r.For,vI r.2.r.Keep,sl aJ r.2.r.Labels]]) Tryz.func130 rfl (Nat.le_of_ble_eq_true (by kernel_rfl)) hm (n0:=1) rfl ?_
 simp only [Tryz.ntmps130,Tryz.results130,bD]
 unfold gB
 clear hm
 exact walk
theorem yU:aW Tryz.prog 131=true:=by kernel_rfl
theorem yF {a0:aX}{r:Int × aX} (hm:iG a0=some r):cW Tryz.prog 131 [.ptr 0 0] [.box [.ptr 1 0],.box [sl aB a0.l,vI a0.i,vS a0.r.Name,vS a0.r.E.S.Name,sl aF a0.r.E.S.M,vI a0.r.E.Op,vI a0.r.E.V,vI a0.r.For,vI a0.r.Keep,sl aJ a0.r.Labels]] (vI r.1) [.box [.ptr 1 0],.box [sl aB r.2.l,vI r.2.i,vS r.2.r.Name,vS r.2.r.E.S.Name,sl aF r.2.r.E.S.M,vI r.2.r.E.Op,vI r.2.r.E.V,vI r.2.r.For,vI r.2.r.Keep,sl aJ r.2.r.Labels]]:=by
 have c1:=@uW
 have e1:=vU
 refine cW.of_model (oin:=[.box [.ptr 1 0],.box [sl aB a0.l,vI a0.i,vS a0.r.Name,vS a0.r.E.S.Name,sl aF a0.r.E.S.M,vI a0.r.E.Op,vI a0.r.E.V,vI a0.r.For,vI a0.r.Keep,sl aJ a0.r.Labels]]) (X:=fun r=>vI r.1) (O:=fun r=>[.box [.ptr 1 0],.box [sl aB r.2.l,vI r.2.i,vS r.2.r.Name,vS r.2.r.E.S.Name,sl aF r.2.r.E.S.M,vI r.2.r.E.Op,vI r.2.r.E.V,vI r.2.r.For,vI r.2.r.Keep,sl aJ r.2.r.Labels]]) Tryz.func131 rfl (Nat.le_of_ble_eq_true (by kernel_rfl)) hm (n0:=2) rfl ?_
 simp only [Tryz.ntmps131,Tryz.results131,bD]
 unfold iG
 clear hm
 exact walk
theorem AK:aW Tryz.prog 146=true:=by kernel_rfl
theorem zZ {a0:aX}{r:aQ × Int × aX} (hm:jK a0=some r):cW Tryz.prog 146 [.ptr 0 0] [.box [sl aB a0.l,vI a0.i,vS a0.r.Name,vS a0.r.E.S.Name,sl aF a0.r.E.S.M,vI a0.r.E.Op,vI a0.r.E.V,vI a0.r.For,vI a0.r.Keep,sl aJ a0.r.Labels]] (.tup [(ag aJ) r.1,vI r.2.1]) [.box [sl aB r.2.2.l,vI r.2.2.i,vS r.2.2.r.Name,vS r.2.2.r.E.S.Name,sl aF r.2.2.r.E.S.M,vI r.2.2.r.E.Op,vI r.2.2.r.E.V,vI r.2.2.r.For,vI r.2.2.r.Keep,sl aJ r.2.2.r.Labels]]:=by
 have c1:=@lY
 have e1:=mG
 have c2:=@gL
 have e2:=hJ
 have c3:=@gA
 have e3:=gQ
 refine cW.of_model (oin:=[.box [sl aB a0.l,vI a0.i,vS a0.r.Name,vS a0.r.E.S.Name,sl aF a0.r.E.S.M,vI a0.r.E.Op,vI a0.r.E.V,vI a0.r.For,vI a0.r.Keep,sl aJ a0.r.Labels]]) (X:=fun r=>.tup [(ag aJ) r.1,vI r.2.1]) (O:=fun r=>[.box [sl aB r.2.2.l,vI r.2.2.i,vS r.2.2.r.Name,vS r.2.2.r.E.S.Name,sl aF r.2.2.r.E.S.M,vI r.2.2.r.E.Op,vI r.2.2.r.E.V,vI r.2.2.r.For,vI r.2.2.r.Keep,sl aJ r.2.2.r.Labels]]) Tryz.func146 rfl (Nat.le_of_ble_eq_true (by kernel_rfl)) hm (n0:=1) rfl ?_
 simp only [Tryz.ntmps146,Tryz.results146,bD]
 unfold jK
 clear hm
 exact walk
theorem wR:aW Tryz.prog 156=true:=by kernel_rfl
theorem vN {a0:(List aQ)}{r:(List aQ)} (hm:gP a0=some r):Fun Tryz.prog 156 [(sl aJ) a0] (so 0 aJ r) [tk r.length 2 87]:=by
 refine Fun.of_model (X:=fun r=>so 0 aJ r) (O:=fun r=>[tk r.length 2 87]) Tryz.func156 rfl (Nat.le_of_ble_eq_true (by kernel_rfl)) hm ?_
 simp only [Tryz.ntmps156,Tryz.results156,bD]
 unfold gP
 clear hm
 exact walk
end Go.Proofs.YthgenmkengbmmaaGreatDoor.AM
