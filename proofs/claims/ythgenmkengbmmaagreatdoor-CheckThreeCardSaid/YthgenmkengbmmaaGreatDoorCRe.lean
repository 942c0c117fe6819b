/- Re -/
import Derived.Test.YthgenmkengbmmaaGreatDoorCGo
import Derived.Test.YthgenmkengbmmaaGreatDoorCRa
import Derived.Test.YthgenmkengbmmaaGreatDoorCRb
import Derived.Test.YthgenmkengbmmaaGreatDoorCRc
import Derived.Test.YthgenmkengbmmaaGreatDoorCRd
set_option linter.all false
namespace Go.Proofs.YthgenmkengbmmaaGreatDoor.AM
open Go Go.Proofs
set_option maxRecDepth 20000
set_option maxHeartbeats 4000000
theorem DI:aU Tryz.prog 171=true:=by kernel_rfl
theorem Cg {a0:Str}{r:Bool} (hm:k8 a0=some r):Fun Tryz.prog 171 [vS a0] (vB r) []:=by
 refine Fun.of_model (X:=fun r=>vB r) (O:=fun r=>[]) Tryz.func171 rfl (Nat.le_of_ble_eq_true (by kernel_rfl)) hm ?_
 simp only [Tryz.ntmps171,Tryz.results171,bF]
 unfold k8
 clear hm
 exact walk
theorem Cc:aU Tryz.prog 159=true:=by kernel_rfl
theorem AZ {a0:Str}{a1:Str}{r:Int} (hm:j5 a0 a1=some r):Fun Tryz.prog 159 [vS a0,vS a1] (vI r) []:=by
 have c1:=@Cg
 have e1:=DI
 refine Fun.of_model (X:=fun r=>vI r) (O:=fun r=>[]) Tryz.func159 rfl (Nat.le_of_ble_eq_true (by kernel_rfl)) hm ?_
 simp only [Tryz.ntmps159,Tryz.results159,bF]
 unfold j5
 clear hm
 exact walk
theorem Hh:aU Tryz.prog 158=true:=by kernel_rfl
theorem Gk {a0:aY}{a1:aY}{r:Int} (hm:oW a0 a1=some r):Fun Tryz.prog 158 [(ag aK) a0,(ag aK) a1] (vI r) []:=by
 have c1:=@AZ
 have e1:=Cc
 refine Fun.of_model (X:=fun r=>vI r) (O:=fun r=>[]) Tryz.func158 rfl (Nat.le_of_ble_eq_true (by kernel_rfl)) hm ?_
 simp only [Tryz.ntmps158,Tryz.results158,bF]
 unfold oW
 clear hm
 exact walk
theorem Kd:aU Tryz.prog 147=true:=by kernel_rfl
theorem IY {a0:(List aY)}{r:(List aY) × Int} (hm:sW a0=some r):Fun Tryz.prog 147 [(sl aK) a0] (.tup [(sl aK) r.1,vI r.2]) []:=by
 have c1:=@w4
 have e1:=xY
 have c2:=@Gk
 have e2:=Hh
 have c3:=@f7
 have e3:=gV
 have z1:=YL
 have s1:=HE
 have so1:=F8
 have se1:=O4
 have j1:=@O3
 refine Fun.of_model (X:=fun r=>.tup [(sl aK) r.1,vI r.2]) (O:=fun r=>[]) Tryz.func147 rfl (Nat.le_of_ble_eq_true (by kernel_rfl)) hm ?_
 simp only [Tryz.ntmps147,Tryz.results147,bF]
 unfold sW
 clear hm
 exact walk
theorem Gg:aU Tryz.prog 72=true:=by kernel_rfl
theorem Fe {a0:Str}{r:Bool} (hm:oA a0=some r):Fun Tryz.prog 72 [vS a0] (vB r) []:=by
 refine Fun.of_model (X:=fun r=>vB r) (O:=fun r=>[]) Tryz.func72 rfl (Nat.le_of_ble_eq_true (by kernel_rfl)) hm ?_
 simp only [Tryz.ntmps72,Tryz.results72,bF]
 unfold oA
 clear hm
 exact walk
theorem z7:aU Tryz.prog 45=true:=by kernel_rfl
theorem xI {a0:(List aY)}{r:Bool} (hm:lQ a0=some r):Fun Tryz.prog 45 [(sl aK) a0] (vB r) []:=by
 have c1:=@Fe
 have e1:=Gg
 refine Fun.of_model (X:=fun r=>vB r) (O:=fun r=>[]) Tryz.func45 rfl (Nat.le_of_ble_eq_true (by kernel_rfl)) hm ?_
 simp only [Tryz.ntmps45,Tryz.results45,bF]
 unfold lQ
 clear hm
 exact walk
theorem Ab:aU Tryz.prog 132=true:=by kernel_rfl
theorem yY {a0:bD}{r:Int × bD} (hm:iQ a0=some r):dE Tryz.prog 132 [.ptr 0 0] [.box [sl aB a0.l,vI a0.i,vS a0.r.Name,vS a0.r.E.S.Name,sl aH a0.r.E.S.M,vI a0.r.E.Op,vI a0.r.E.V,vI a0.r.For,vI a0.r.Keep,sl aK a0.r.Labels]] (vI r.1) [.box [sl aB r.2.l,vI r.2.i,vS r.2.r.Name,vS r.2.r.E.S.Name,sl aH r.2.r.E.S.M,vI r.2.r.E.Op,vI r.2.r.E.V,vI r.2.r.For,vI r.2.r.Keep,sl aK r.2.r.Labels]]:=by
 have c1:=@mC
 have e1:=mZ
 have c2:=@gD
 have e2:=gO
 have c3:=@tB
 have e3:=uH
 have c4:=@A7
 have e4:=BF
 have c5:=@IY
 have e5:=Kd
 have c6:=@xI
 have e6:=z7
 refine dE.of_model (oin:=[.box [sl aB a0.l,vI a0.i,vS a0.r.Name,vS a0.r.E.S.Name,sl aH a0.r.E.S.M,vI a0.r.E.Op,vI a0.r.E.V,vI a0.r.For,vI a0.r.Keep,sl aK a0.r.Labels]]) (X:=fun r=>vI r.1) (O:=fun r=>[.box [sl aB r.2.l,vI r.2.i,vS r.2.r.Name,vS r.2.r.E.S.Name,sl aH r.2.r.E.S.M,vI r.2.r.E.Op,vI r.2.r.E.V,vI r.2.r.For,vI r.2.r.Keep,sl aK r.2.r.Labels]]) Tryz.func132 rfl (Nat.le_of_ble_eq_true (by kernel_rfl)) hm (n0:=1) rfl ?_
 simp only [Tryz.ntmps132,Tryz.results132,bF]
 unfold iQ
 clear hm
 exact walk
theorem BK:aU Tryz.prog 109=true:=by kernel_rfl
theorem Be {a0:bD}{r:Int × bD} (hm:iC a0=some r):dE Tryz.prog 109 [.ptr 0 0] [.box [sl aB a0.l,vI a0.i,vS a0.r.Name,vS a0.r.E.S.Name,sl aH a0.r.E.S.M,vI a0.r.E.Op,vI a0.r.E.V,vI a0.r.For,vI a0.r.Keep,sl aK a0.r.Labels]] (vI r.1) [.box [sl aB r.2.l,vI r.2.i,vS r.2.r.Name,vS r.2.r.E.S.Name,sl aH r.2.r.E.S.M,vI r.2.r.E.Op,vI r.2.r.E.V,vI r.2.r.For,vI r.2.r.Keep,sl aK r.2.r.Labels]]:=by
 have c1:=@mC
 have e1:=mZ
 have c2:=@gT
 have e2:=iI
 have c3:=@gD
 have e3:=gO
 have c4:=@zM
 have e4:=Ac
 have c5:=@zU
 have e5:=Ad
 have c6:=@yY
 have e6:=Ab
 have c7:=@Jv
 have e7:=KM
 have c8:=@f7
 have e8:=gV
 refine dE.of_model (oin:=[.box [sl aB a0.l,vI a0.i,vS a0.r.Name,vS a0.r.E.S.Name,sl aH a0.r.E.S.M,vI a0.r.E.Op,vI a0.r.E.V,vI a0.r.For,vI a0.r.Keep,sl aK a0.r.Labels]]) (X:=fun r=>vI r.1) (O:=fun r=>[.box [sl aB r.2.l,vI r.2.i,vS r.2.r.Name,vS r.2.r.E.S.Name,sl aH r.2.r.E.S.M,vI r.2.r.E.Op,vI r.2.r.E.V,vI r.2.r.For,vI r.2.r.Keep,sl aK r.2.r.Labels]]) Tryz.func109 rfl (Nat.le_of_ble_eq_true (by kernel_rfl)) hm (n0:=1) rfl ?_
 simp only [Tryz.ntmps109,Tryz.results109,bF]
 unfold iC
 clear hm
 exact walk
theorem Dn:aU Tryz.prog 89=true:=by kernel_rfl
theorem B2 {a0:(List aN)}{a1:Int}{r:a6 × Int × Int} (hm:nZ a0 a1=some r):Fun Tryz.prog 89 [(sl aB) a0,vI a1] (.tup [(ag bL) r.1,vI r.2.1,vI r.2.2]) []:=by
 have c1:=@Be
 have e1:=BK
 refine Fun.of_model (X:=fun r=>.tup [(ag bL) r.1,vI r.2.1,vI r.2.2]) (O:=fun r=>[]) Tryz.func89 rfl (Nat.le_of_ble_eq_true (by kernel_rfl)) hm ?_
 simp only [Tryz.ntmps89,Tryz.results89,bF]
 unfold nZ
 clear hm
 exact walk
theorem tY:aU Tryz.prog 66=true:=by kernel_rfl
theorem rM {a0:(List a6)}{a1:Str}{r:Bool} (hm:jW a0 a1=some r):Fun Tryz.prog 66 [(sl bL) a0,vS a1] (vB r) []:=by
 refine Fun.of_model (X:=fun r=>vB r) (O:=fun r=>[]) Tryz.func66 rfl (Nat.le_of_ble_eq_true (by kernel_rfl)) hm ?_
 simp only [Tryz.ntmps66,Tryz.results66,bF]
 unfold jW
 clear hm
 exact walk
theorem Ca:aU Tryz.prog 65=true:=by kernel_rfl
theorem Bg {a0:(List a6)}{a1:(List aN)}{a2:Int}{a3:(List aI)}{r:Except Flt (a6 × Int)} (hm:lX a0 a1 a2 a3=some r):jD Tryz.prog 65 [.ptr 0 0,sl bL a0] [.box [sl aB a1,vI a2,sl aD a3]] (fun (r:a6 × Int)=>(ag bL) r.1) (fun (r:a6 × Int)=>[.box [sl aB a1,vI r.2,sl aD a3]]) 72 r:=by
 have c1:=@tX
 have e1:=uI
 have c2:=@rM
 have e2:=tY
 have c3:=@B2
 have e3:=Dn
 refine jD.of_model (oin:=[.box [sl aB a1,vI a2,sl aD a3]]) (X:=fun r=>(ag bL) r.1) (O:=fun r=>[.box [sl aB a1,vI r.2,sl aD a3]]) Tryz.func65 rfl (Nat.le_of_ble_eq_true (by kernel_rfl)) hm (n0:=1) rfl ?_
 simp only [Tryz.ntmps65,Tryz.results65,bF]
 unfold lX
 clear hm
 exact walk
theorem Bm:aU Tryz.prog 37=true:=by kernel_rfl
theorem Af {a0:(List aN)}{a1:Int}{a2:(List aI)}{r:Except Flt (aI × Int)} (hm:uJ a0 a1 a2=some r):jD Tryz.prog 37 [.ptr 0 0] [.box [sl aB a0,vI a1,sl aD a2]] (fun (r:aI × Int)=>(ag aD) r.1) (fun (r:aI × Int)=>[.box [sl aB a0,vI r.2,sl aD a2]]) 72 r:=by
 have c1:=@Bj
 have e1:=BV
 have c2:=@q6
 have e2:=r9
 have c3:=@w5
 have e3:=xM
 have c4:=@qT
 have e4:=sF
 have c5:=@Bg
 have e5:=Ca
 have c6:=@qJ
 have e6:=rK
 have c7:=@f7
 have e7:=gV
 refine jD.of_model (oin:=[.box [sl aB a0,vI a1,sl aD a2]]) (X:=fun r=>(ag aD) r.1) (O:=fun r=>[.box [sl aB a0,vI r.2,sl aD a2]]) Tryz.func37 rfl (Nat.le_of_ble_eq_true (by kernel_rfl)) hm (n0:=1) rfl ?_
 simp only [Tryz.ntmps37,Tryz.results37,bF]
 unfold uJ
 clear hm
 exact walk
end Go.Proofs.YthgenmkengbmmaaGreatDoor.AM
