/- Re -/
import Derived.Test.YthgenmkengbmmaaGreatDoorGo
import Derived.Test.YthgenmkengbmmaaGreatDoorRa
import Derived.Test.YthgenmkengbmmaaGreatDoorRb
import Derived.Test.YthgenmkengbmmaaGreatDoorRc
import Derived.Test.YthgenmkengbmmaaGreatDoorRd
set_option linter.all false
namespace Go.Proofs.YthgenmkengbmmaaGreatDoor.AM
open Go Go.Proofs
set_option maxRecDepth 20000
set_option maxHeartbeats 4000000
theorem Cw:aW Tryz.prog 171=true:=by kernel_rfl
theorem Bo {a0:Str}{r:Bool} (hm:kL a0=some r):Fun Tryz.prog 171 [vS a0] (vB r) []:=by
 refine Fun.of_model (X:=fun r=>vB r) (O:=fun r=>[]) Tryz.func171 rfl (Nat.le_of_ble_eq_true (by kernel_rfl)) hm ?_
 simp only [Tryz.ntmps171,Tryz.results171,bD]
 unfold kL
 clear hm
 exact walk
theorem AB:aW Tryz.prog 159=true:=by kernel_rfl
theorem Az {a0:Str}{a1:Str}{r:Int} (hm:jJ a0 a1=some r):Fun Tryz.prog 159 [vS a0,vS a1] (vI r) []:=by
 have c1:=@Bo
 have e1:=Cw
 refine Fun.of_model (X:=fun r=>vI r) (O:=fun r=>[]) Tryz.func159 rfl (Nat.le_of_ble_eq_true (by kernel_rfl)) hm ?_
 simp only [Tryz.ntmps159,Tryz.results159,bD]
 unfold jJ
 clear hm
 exact walk
theorem Gg:aW Tryz.prog 158=true:=by kernel_rfl
theorem Fo {a0:aQ}{a1:aQ}{r:Int} (hm:n7 a0 a1=some r):Fun Tryz.prog 158 [(ag aJ) a0,(ag aJ) a1] (vI r) []:=by
 have c1:=@Az
 have e1:=AB
 refine Fun.of_model (X:=fun r=>vI r) (O:=fun r=>[]) Tryz.func158 rfl (Nat.le_of_ble_eq_true (by kernel_rfl)) hm ?_
 simp only [Tryz.ntmps158,Tryz.results158,bD]
 unfold n7
 clear hm
 exact walk
theorem II:aW Tryz.prog 147=true:=by kernel_rfl
theorem Hk {a0:(List aQ)}{r:(List aQ) × Int} (hm:rS a0=some r):Fun Tryz.prog 147 [(sl aJ) a0] (.tup [(sl aJ) r.1,vI r.2]) []:=by
 have c1:=@vN
 have e1:=wR
 have c2:=@Fo
 have e2:=Gg
 have c3:=@f8
 have e3:=gV
 have z1:=Xd
 have s1:=Gy
 have so1:=Fb
 have se1:=N2
 have j1:=@Ng
 refine Fun.of_model (X:=fun r=>.tup [(sl aJ) r.1,vI r.2]) (O:=fun r=>[]) Tryz.func147 rfl (Nat.le_of_ble_eq_true (by kernel_rfl)) hm ?_
 simp only [Tryz.ntmps147,Tryz.results147,bD]
 unfold rS
 clear hm
 exact walk
theorem Fc:aW Tryz.prog 72=true:=by kernel_rfl
theorem D3 {a0:Str}{r:Bool} (hm:nE a0=some r):Fun Tryz.prog 72 [vS a0] (vB r) []:=by
 refine Fun.of_model (X:=fun r=>vB r) (O:=fun r=>[]) Tryz.func72 rfl (Nat.le_of_ble_eq_true (by kernel_rfl)) hm ?_
 simp only [Tryz.ntmps72,Tryz.results72,bD]
 unfold nE
 clear hm
 exact walk
theorem xP:aW Tryz.prog 45=true:=by kernel_rfl
theorem v6 {a0:(List aQ)}{r:Bool} (hm:lB a0=some r):Fun Tryz.prog 45 [(sl aJ) a0] (vB r) []:=by
 have c1:=@D3
 have e1:=Fc
 refine Fun.of_model (X:=fun r=>vB r) (O:=fun r=>[]) Tryz.func45 rfl (Nat.le_of_ble_eq_true (by kernel_rfl)) hm ?_
 simp only [Tryz.ntmps45,Tryz.results45,bD]
 unfold lB
 clear hm
 exact walk
theorem yX:aW Tryz.prog 132=true:=by kernel_rfl
theorem yC {a0:aX}{r:Int × aX} (hm:iI a0=some r):cW Tryz.prog 132 [.ptr 0 0] [.box [sl aB a0.l,vI a0.i,vS a0.r.Name,vS a0.r.E.S.Name,sl aF a0.r.E.S.M,vI a0.r.E.Op,vI a0.r.E.V,vI a0.r.For,vI a0.r.Keep,sl aJ a0.r.Labels]] (vI r.1) [.box [sl aB r.2.l,vI r.2.i,vS r.2.r.Name,vS r.2.r.E.S.Name,sl aF r.2.r.E.S.M,vI r.2.r.E.Op,vI r.2.r.E.V,vI r.2.r.For,vI r.2.r.Keep,sl aJ r.2.r.Labels]]:=by
 have c1:=@lY
 have e1:=mG
 have c2:=@gA
 have e2:=gQ
 have c3:=@sX
 have e3:=s4
 have c4:=@zZ
 have e4:=AK
 have c5:=@Hk
 have e5:=II
 have c6:=@v6
 have e6:=xP
 refine cW.of_model (oin:=[.box [sl aB a0.l,vI a0.i,vS a0.r.Name,vS a0.r.E.S.Name,sl aF a0.r.E.S.M,vI a0.r.E.Op,vI a0.r.E.V,vI a0.r.For,vI a0.r.Keep,sl aJ a0.r.Labels]]) (X:=fun r=>vI r.1) (O:=fun r=>[.box [sl aB r.2.l,vI r.2.i,vS r.2.r.Name,vS r.2.r.E.S.Name,sl aF r.2.r.E.S.M,vI r.2.r.E.Op,vI r.2.r.E.V,vI r.2.r.For,vI r.2.r.Keep,sl aJ r.2.r.Labels]]) Tryz.func132 rfl (Nat.le_of_ble_eq_true (by kernel_rfl)) hm (n0:=1) rfl ?_
 simp only [Tryz.ntmps132,Tryz.results132,bD]
 unfold iI
 clear hm
 exact walk
theorem AJ:aW Tryz.prog 109=true:=by kernel_rfl
theorem Ai {a0:aX}{r:Int × aX} (hm:hU a0=some r):cW Tryz.prog 109 [.ptr 0 0] [.box [sl aB a0.l,vI a0.i,vS a0.r.Name,vS a0.r.E.S.Name,sl aF a0.r.E.S.M,vI a0.r.E.Op,vI a0.r.E.V,vI a0.r.For,vI a0.r.Keep,sl aJ a0.r.Labels]] (vI r.1) [.box [sl aB r.2.l,vI r.2.i,vS r.2.r.Name,vS r.2.r.E.S.Name,sl aF r.2.r.E.S.M,vI r.2.r.E.Op,vI r.2.r.E.V,vI r.2.r.For,vI r.2.r.Keep,sl aJ r.2.r.Labels]]:=by
 have c1:=@lY
 have e1:=mG
 have c2:=@gL
 have e2:=hJ
 have c3:=@gA
 have e3:=gQ
 have c4:=@yQ
 have e4:=yT
 have c5:=@yF
 have e5:=yU
 have c6:=@yC
 have e6:=yX
 have c7:=@HI
 have e7:=I4
 have c8:=@f8
 have e8:=gV
 refine cW.of_model (oin:=[.box [sl aB a0.l,vI a0.i,vS a0.r.Name,vS a0.r.E.S.Name,sl aF a0.r.E.S.M,vI a0.r.E.Op,vI a0.r.E.V,vI a0.r.For,vI a0.r.Keep,sl aJ a0.r.Labels]]) (X:=fun r=>vI r.1) (O:=fun r=>[.box [sl aB r.2.l,vI r.2.i,vS r.2.r.Name,vS r.2.r.E.S.Name,sl aF r.2.r.E.S.M,vI r.2.r.E.Op,vI r.2.r.E.V,vI r.2.r.For,vI r.2.r.Keep,sl aJ r.2.r.Labels]]) Tryz.func109 rfl (Nat.le_of_ble_eq_true (by kernel_rfl)) hm (n0:=1) rfl ?_
 simp only [Tryz.ntmps109,Tryz.results109,bD]
 unfold hU
 clear hm
 exact walk
theorem Ci:aW Tryz.prog 89=true:=by kernel_rfl
theorem AW {a0:(List aL)}{a1:Int}{r:aR × Int × Int} (hm:m5 a0 a1=some r):Fun Tryz.prog 89 [(sl aB) a0,vI a1] (.tup [(ag bA) r.1,vI r.2.1,vI r.2.2]) []:=by
 have c1:=@Ai
 have e1:=AJ
 refine Fun.of_model (X:=fun r=>.tup [(ag bA) r.1,vI r.2.1,vI r.2.2]) (O:=fun r=>[]) Tryz.func89 rfl (Nat.le_of_ble_eq_true (by kernel_rfl)) hm ?_
 simp only [Tryz.ntmps89,Tryz.results89,bD]
 unfold m5
 clear hm
 exact walk
theorem sL:aW Tryz.prog 66=true:=by kernel_rfl
theorem qT {a0:(List aR)}{a1:Str}{r:Bool} (hm:jP a0 a1=some r):Fun Tryz.prog 66 [(sl bA) a0,vS a1] (vB r) []:=by
 refine Fun.of_model (X:=fun r=>vB r) (O:=fun r=>[]) Tryz.func66 rfl (Nat.le_of_ble_eq_true (by kernel_rfl)) hm ?_
 simp only [Tryz.ntmps66,Tryz.results66,bD]
 unfold jP
 clear hm
 exact walk
theorem A1:aW Tryz.prog 65=true:=by kernel_rfl
theorem Ax {a0:(List aR)}{a1:(List aL)}{a2:Int}{a3:(List aI)}{r:Except Flt (aR × Int)} (hm:lR a0 a1 a2 a3=some r):iX Tryz.prog 65 [.ptr 0 0,sl bA a0] [.box [sl aB a1,vI a2,sl aC a3]] (fun (r:aR × Int)=>(ag bA) r.1) (fun (r:aR × Int)=>[.box [sl aB a1,vI r.2,sl aC a3]]) 72 r:=by
 have c1:=@sD
 have e1:=sZ
 have c2:=@qT
 have e2:=sL
 have c3:=@AW
 have e3:=Ci
 refine iX.of_model (oin:=[.box [sl aB a1,vI a2,sl aC a3]]) (X:=fun r=>(ag bA) r.1) (O:=fun r=>[.box [sl aB a1,vI r.2,sl aC a3]]) Tryz.func65 rfl (Nat.le_of_ble_eq_true (by kernel_rfl)) hm (n0:=1) rfl ?_
 simp only [Tryz.ntmps65,Tryz.results65,bD]
 unfold lR
 clear hm
 exact walk
theorem Aw:aW Tryz.prog 37=true:=by kernel_rfl
theorem yW {a0:(List aL)}{a1:Int}{a2:(List aI)}{r:Except Flt (aI × Int)} (hm:s5 a0 a1 a2=some r):iX Tryz.prog 37 [.ptr 0 0] [.box [sl aB a0,vI a1,sl aC a2]] (fun (r:aI × Int)=>(ag aC) r.1) (fun (r:aI × Int)=>[.box [sl aB a0,vI r.2,sl aC a2]]) 72 r:=by
 have c1:=@Aa
 have e1:=AC
 have c2:=@pY
 have e2:=rI
 have c3:=@vJ
 have e3:=wN
 have c4:=@pM
 have e4:=rE
 have c5:=@Ax
 have e5:=A1
 have c6:=@pH
 have e6:=qN
 have c7:=@f8
 have e7:=gV
 refine iX.of_model (oin:=[.box [sl aB a0,vI a1,sl aC a2]]) (X:=fun r=>(ag aC) r.1) (O:=fun r=>[.box [sl aB a0,vI r.2,sl aC a2]]) Tryz.func37 rfl (Nat.le_of_ble_eq_true (by kernel_rfl)) hm (n0:=1) rfl ?_
 simp only [Tryz.ntmps37,Tryz.results37,bD]
 unfold s5
 clear hm
 exact walk
end Go.Proofs.YthgenmkengbmmaaGreatDoor.AM
