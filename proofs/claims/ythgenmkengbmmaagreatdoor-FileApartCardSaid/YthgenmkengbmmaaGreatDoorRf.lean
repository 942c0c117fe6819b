/- Rf -/
import Derived.Test.YthgenmkengbmmaaGreatDoorGo
import Derived.Test.YthgenmkengbmmaaGreatDoorRa
import Derived.Test.YthgenmkengbmmaaGreatDoorRb
import Derived.Test.YthgenmkengbmmaaGreatDoorRc
import Derived.Test.YthgenmkengbmmaaGreatDoorRd
import Derived.Test.YthgenmkengbmmaaGreatDoorRe
set_option linter.all false
namespace Go.Proofs.YthgenmkengbmmaaGreatDoor.AM
open Go Go.Proofs
set_option maxRecDepth 20000
set_option maxHeartbeats 4000000
theorem r4:aW Tryz.prog 88=true:=by kernel_rfl
theorem rB {a0:Int}{a1:Str}{a2:(List aL)}{a3:Int}{a4:(List aI)}{r:Bool} (hm:iQ a0 a1 a2 a3 a4=some r):cW Tryz.prog 88 [.ptr 0 0,vI a0,vS a1] [.box [sl aB a2,vI a3,so 1 aC a4],.tok a4.length 4 34 false] (vB r) [.box [sl aB a2,vI a3,so 1 aC a4],.tok a4.length 4 34 false]:=by
 refine cW.of_model (oin:=[.box [sl aB a2,vI a3,so 1 aC a4],.tok a4.length 4 34 false]) (X:=fun r=>vB r) (O:=fun r=>[.box [sl aB a2,vI a3,so 1 aC a4],.tok a4.length 4 34 false]) Tryz.func88 rfl (Nat.le_of_ble_eq_true (by kernel_rfl)) hm (n0:=2) rfl ?_
 simp only [Tryz.ntmps88,Tryz.results88,bD]
 unfold iQ
 clear hm
 exact walk
theorem p6:aW Tryz.prog 64=true:=by kernel_rfl
theorem pC {a0:Int}{a1:Str}{a2:(List aL)}{a3:Int}{a4:(List aI)}{r:Bool × Int} (hm:dD a0 a1 a2 a3 a4=some r):cW Tryz.prog 64 [.ptr 0 0,vI a0,vS a1] [.box [sl aB a2,vI a3,so 1 aC a4],.tok a4.length 4 34 false] (vB r.1) [.box [sl aB a2,vI r.2,so 1 aC a4],.tok a4.length 4 34 false]:=by
 have c1:=@rB
 have e1:=r4
 refine cW.of_model (oin:=[.box [sl aB a2,vI a3,so 1 aC a4],.tok a4.length 4 34 false]) (X:=fun r=>vB r.1) (O:=fun r=>[.box [sl aB a2,vI r.2,so 1 aC a4],.tok a4.length 4 34 false]) Tryz.func64 rfl (Nat.le_of_ble_eq_true (by kernel_rfl)) hm (n0:=2) rfl ?_
 simp only [Tryz.ntmps64,Tryz.results64,bD]
 unfold dD
 clear hm
 exact walk
theorem pD:aW Tryz.prog 86=true:=by kernel_rfl
theorem nV {a0:(List aL)}{a1:Int}{a2:(List aI)}{r:Except Flt (Unit)} (hm:eT a0 a1 a2=some r):iX Tryz.prog 86 [.ptr 0 0] [.box [sl aB a0,vI a1,so 1 aC a2],.tok a2.length 4 34 false] (fun (r:Unit)=>.tup []) (fun (r:Unit)=>[.box [sl aB a0,vI a1,so 1 aC a2],.tok a2.length 4 34 false]) 72 r:=by
 refine iX.of_model (oin:=[.box [sl aB a0,vI a1,so 1 aC a2],.tok a2.length 4 34 false]) (X:=fun r=>.tup []) (O:=fun r=>[.box [sl aB a0,vI a1,so 1 aC a2],.tok a2.length 4 34 false]) Tryz.func86 rfl (Nat.le_of_ble_eq_true (by kernel_rfl)) hm (n0:=2) rfl ?_
 simp only [Tryz.ntmps86,Tryz.results86,bD]
 unfold eT
 clear hm
 exact walk
theorem Au:aW Tryz.prog 61=true:=by kernel_rfl
theorem yV {a0:Int}{a1:Str}{a2:(List aL)}{a3:Int}{a4:(List aI)}{r:Except Flt (Int)} (hm:cT a0 a1 a2 a3 a4=some r):iX Tryz.prog 61 [.ptr 0 0,vI a0,vS a1] [.box [sl aB a2,vI a3,so 1 aC a4],.tok a4.length 4 34 false] (fun (r:Int)=>.tup []) (fun (r:Int)=>[.box [sl aB a2,vI r,so 1 aC a4],.tok a4.length 4 34 false]) 72 r:=by
 have c1:=@pC
 have e1:=p6
 have c2:=@nV
 have e2:=pD
 refine iX.of_model (oin:=[.box [sl aB a2,vI a3,so 1 aC a4],.tok a4.length 4 34 false]) (X:=fun r=>.tup []) (O:=fun r=>[.box [sl aB a2,vI r,so 1 aC a4],.tok a4.length 4 34 false]) Tryz.func61 rfl (Nat.le_of_ble_eq_true (by kernel_rfl)) hm (n0:=2) rfl ?_
 simp only [Tryz.ntmps61,Tryz.results61,bD]
 unfold cT
 clear hm
 exact walk
theorem pT:aW Tryz.prog 62=true:=by kernel_rfl
theorem pE {a0:Int}{a1:(List aL)}{a2:Int}{a3:(List aI)}{r:Except Flt (Str × Int)} (hm:gI a0 a1 a2 a3=some r):iX Tryz.prog 62 [.ptr 0 0,vI a0] [.box [sl aB a1,vI a2,so 1 aC a3],.tok a3.length 4 34 false] (fun (r:Str × Int)=>vS r.1) (fun (r:Str × Int)=>[.box [sl aB a1,vI r.2,so 1 aC a3],.tok a3.length 4 34 false]) 72 r:=by
 have c1:=@nV
 have e1:=pD
 refine iX.of_model (oin:=[.box [sl aB a1,vI a2,so 1 aC a3],.tok a3.length 4 34 false]) (X:=fun r=>vS r.1) (O:=fun r=>[.box [sl aB a1,vI r.2,so 1 aC a3],.tok a3.length 4 34 false]) Tryz.func62 rfl (Nat.le_of_ble_eq_true (by kernel_rfl)) hm (n0:=2) rfl ?_
 simp only [Tryz.ntmps62,Tryz.results62,bD]
 unfold gI
 clear hm
 exact walk
theorem vX:aW Tryz.prog 63=true:=by kernel_rfl
theorem vF {a0:(List aL)}{a1:Int}{a2:(List aI)}{r:Except Flt (Int × Int)} (hm:eO a0 a1 a2=some r):iX Tryz.prog 63 [.ptr 0 0] [.box [sl aB a0,vI a1,so 1 aC a2],.tok a2.length 4 34 false] (fun (r:Int × Int)=>vI r.1) (fun (r:Int × Int)=>[.box [sl aB a0,vI r.2,so 1 aC a2],.tok a2.length 4 34 false]) 72 r:=by
 have c1:=@pE
 have e1:=pT
 have c2:=@qG
 have e2:=rX
 refine iX.of_model (oin:=[.box [sl aB a0,vI a1,so 1 aC a2],.tok a2.length 4 34 false]) (X:=fun r=>vI r.1) (O:=fun r=>[.box [sl aB a0,vI r.2,so 1 aC a2],.tok a2.length 4 34 false]) Tryz.func63 rfl (Nat.le_of_ble_eq_true (by kernel_rfl)) hm (n0:=2) rfl ?_
 simp only [Tryz.ntmps63,Tryz.results63,bD]
 unfold eO
 clear hm
 exact walk
theorem Ap:aW Tryz.prog 65=true:=by kernel_rfl
theorem yZ {a0:(List aR)}{a1:(List aL)}{a2:Int}{a3:(List aI)}{r:Except Flt (aR × Int)} (hm:gG a0 a1 a2 a3=some r):iX Tryz.prog 65 [.ptr 0 0,sl bA a0] [.box [sl aB a1,vI a2,so 1 aC a3],.tok a3.length 4 34 false] (fun (r:aR × Int)=>(ag bA) r.1) (fun (r:aR × Int)=>[.box [sl aB a1,vI r.2,so 1 aC a3],.tok a3.length 4 34 false]) 72 r:=by
 have c1:=@rB
 have e1:=r4
 have c2:=@qT
 have e2:=sL
 have c3:=@AW
 have e3:=Ci
 refine iX.of_model (oin:=[.box [sl aB a1,vI a2,so 1 aC a3],.tok a3.length 4 34 false]) (X:=fun r=>(ag bA) r.1) (O:=fun r=>[.box [sl aB a1,vI r.2,so 1 aC a3],.tok a3.length 4 34 false]) Tryz.func65 rfl (Nat.le_of_ble_eq_true (by kernel_rfl)) hm (n0:=2) rfl ?_
 simp only [Tryz.ntmps65,Tryz.results65,bD]
 unfold gG
 clear hm
 exact walk
theorem yY:aW Tryz.prog 37=true:=by kernel_rfl
theorem xR {a0:(List aL)}{a1:Int}{a2:(List aI)}{r:Except Flt (aI × Int)} (hm:iH a0 a1 a2=some r):iX Tryz.prog 37 [.ptr 0 0] [.box [sl aB a0,vI a1,so 1 aC a2],.tok a2.length 4 34 false] (fun (r:aI × Int)=>(ag aC) r.1) (fun (r:aI × Int)=>[.box [sl aB a0,vI r.2,so 1 aC a2],.tok a2.length 4 34 false]) 72 r:=by
 have c1:=@yV
 have e1:=Au
 have c2:=@pE
 have e2:=pT
 have c3:=@vF
 have e3:=vX
 have c4:=@pC
 have e4:=p6
 have c5:=@yZ
 have e5:=Ap
 have c6:=@pH
 have e6:=qN
 have c7:=@f8
 have e7:=gV
 refine iX.of_model (oin:=[.box [sl aB a0,vI a1,so 1 aC a2],.tok a2.length 4 34 false]) (X:=fun r=>(ag aC) r.1) (O:=fun r=>[.box [sl aB a0,vI r.2,so 1 aC a2],.tok a2.length 4 34 false]) Tryz.func37 rfl (Nat.le_of_ble_eq_true (by kernel_rfl)) hm (n0:=2) rfl ?_
 simp only [Tryz.ntmps37,Tryz.results37,bD]
 unfold iH
 clear hm
 exact walk
theorem D2:aW Tryz.prog 36=true:=by kernel_rfl
theorem C6 {z:Flt}{a0:Str}{a1:(List aI)}{a2:Int}{a3:Int}{a4:(List aL)}{r:(List aI) × Int × Int} (hm:mK z a0 a1 a2 a3 a4=some r):z7 Tryz.prog 36 [.ptr 0 0,.ptr 1 0,.ptr 2 0,.ptr 3 0,.ptr 4 0] (nX 72 z) [.box [vS a0],.box [sl aC a1],.box [vI a2],.box [vI a3],.box [sl aB a4]] [.box [vS a0],.box [sl aC r.1],.box [vI r.2.1],.box [vI r.2.2],.box [sl aB a4]]:=by
 refine z7.of_model (oin:=[.box [vS a0],.box [sl aC a1],.box [vI a2],.box [vI a3],.box [sl aB a4]]) (O:=fun r=>[.box [vS a0],.box [sl aC r.1],.box [vI r.2.1],.box [vI r.2.2],.box [sl aB a4]]) Tryz.func36 rfl rfl rfl rfl (Nat.le_of_ble_eq_true (by kernel_rfl)) hm (n0:=5) rfl ?_
 simp only [Tryz.ntmps36,Tryz.results36,bD]
 unfold mK
 clear hm
 exact walk
theorem Db (cap:List AV) (objs:List Obj) (hk:cap.length=5):zV Tryz.prog 36 cap objs:=by
 refine zV.of_model Tryz.func36 rfl rfl rfl rfl (Nat.le_of_ble_eq_true (by kernel_rfl)) (m:=Lc<|
 aH true) rfl ?_ cap objs hk
 simp only [Tryz.ntmps36,Tryz.results36]
 exact walk
theorem qE:aW Tryz.prog 16=true:=by kernel_rfl
theorem o6 {a0:Str}{r:(List aI) × Int × Int} (hm:dP a0=some r):Fun Tryz.prog 16 [vS a0] (.tup [(sl aC) r.1,vI r.2.1,vI r.2.2]) []:=by
 have c1:=@C6
 have e1:=D2
 have c2:=@yW
 have e2:=Aw
 have c3:=@xR
 have e3:=yY
 have c4:=@L9
 have e4:=N7
 have kz:=Db
 refine cW.fun (cW.of_modelD (oin:=[]) (X:=fun r=>.tup [(sl aC) r.1,vI r.2.1,vI r.2.2]) (O:=fun r=>[]) Tryz.func16 rfl (Nat.le_of_ble_eq_true (by kernel_rfl)) hm (n0:=0) rfl ?_)
 simp only [Tryz.ntmps16,Tryz.results16,bD]
 unfold dP
 clear hm
 exact walk
theorem Ea:aW Tryz.prog 69=true:=by kernel_rfl
theorem CL {a0:cN}{r:Bool} (hm:tE a0=some r):Fun Tryz.prog 69 [(ag qH) a0] (vB r) []:=by
 have c1:=@f8
 have e1:=gV
 refine Fun.of_model (X:=fun r=>vB r) (O:=fun r=>[]) Tryz.func69 rfl (Nat.le_of_ble_eq_true (by kernel_rfl)) hm ?_
 simp only [Tryz.ntmps69,Tryz.results69,bD]
 unfold tE
 clear hm
 exact walk
theorem De:aW Tryz.prog 42=true:=by kernel_rfl
theorem Cg {a0:bX}{r:Bool} (hm:qY a0=some r):Fun Tryz.prog 42 [(ag uX) a0] (vB r) []:=by
 have c1:=@CL
 have e1:=Ea
 have c2:=@Cr
 have e2:=C0
 have c3:=@yO
 have e3:=Ao
 refine Fun.of_model (X:=fun r=>vB r) (O:=fun r=>[]) Tryz.func42 rfl (Nat.le_of_ble_eq_true (by kernel_rfl)) hm ?_
 simp only [Tryz.ntmps42,Tryz.results42,bD]
 unfold qY
 clear hm
 exact walk
end Go.Proofs.YthgenmkengbmmaaGreatDoor.AM
