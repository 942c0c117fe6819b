/- Ra -/
import Derived.Test.YthgenmkengbmmaaGreatDoorCGo
set_option linter.all false
namespace Go.Proofs.YthgenmkengbmmaaGreatDoor.AM
open Go Go.Proofs
set_option maxRecDepth 20000
set_option maxHeartbeats 4000000
theorem LH:aU Tryz.prog 82=true:=by kernel_rfl
theorem KD {a0:Int}{r:Bool} (hm:wX a0=some r):Fun Tryz.prog 82 [(vK .u8) a0] (vB r) []:=by
 refine Fun.of_model (X:=fun r=>vB r) (O:=fun r=>[]) Tryz.func82 rfl (Nat.le_of_ble_eq_true (by kernel_rfl)) hm ?_
 simp only [Tryz.ntmps82,Tryz.results82,bF]
 unfold wX
 clear hm
 exact walk
theorem NN:aU Tryz.prog 57=true:=by kernel_rfl
theorem L4 {a0:Str}{a1:Int}{r:Int} (hm:dX a0 a1=some r):Fun Tryz.prog 57 [vS a0,vI a1] (vI r) []:=by
 have c1:=@KD
 have e1:=LH
 refine Fun.of_model (X:=fun r=>vI r) (O:=fun r=>[]) Tryz.func57 rfl (Nat.le_of_ble_eq_true (by kernel_rfl)) hm ?_
 simp only [Tryz.ntmps57,Tryz.results57,bF]
 unfold dX
 clear hm
 exact walk
theorem Dq:aU Tryz.prog 83=true:=by kernel_rfl
theorem B9 {a0:Int}{r:Bool} (hm:p5 a0=some r):Fun Tryz.prog 83 [(vK .u8) a0] (vB r) []:=by
 refine Fun.of_model (X:=fun r=>vB r) (O:=fun r=>[]) Tryz.func83 rfl (Nat.le_of_ble_eq_true (by kernel_rfl)) hm ?_
 simp only [Tryz.ntmps83,Tryz.results83,bF]
 unfold p5
 clear hm
 exact walk
theorem D8:aU Tryz.prog 84=true:=by kernel_rfl
theorem DC {a0:Int}{r:Bool} (hm:pM a0=some r):Fun Tryz.prog 84 [(vK .u8) a0] (vB r) []:=by
 refine Fun.of_model (X:=fun r=>vB r) (O:=fun r=>[]) Tryz.func84 rfl (Nat.le_of_ble_eq_true (by kernel_rfl)) hm ?_
 simp only [Tryz.ntmps84,Tryz.results84,bF]
 unfold pM
 clear hm
 exact walk
theorem KK:aU Tryz.prog 58=true:=by kernel_rfl
theorem Jf {a0:Str}{r:Int × Int} (hm:dD a0=some r):Fun Tryz.prog 58 [vS a0] (.tup [vI r.1,vI r.2]) []:=by
 have c1:=@B9
 have e1:=Dq
 have c2:=@DC
 have e2:=D8
 have c3:=@BS
 have e3:=(by kernel_rfl:aU Tryz.prog 85=true)
 refine Fun.of_model (X:=fun r=>.tup [vI r.1,vI r.2]) (O:=fun r=>[]) Tryz.func58 rfl (Nat.le_of_ble_eq_true (by kernel_rfl)) hm ?_
 simp only [Tryz.ntmps58,Tryz.results58,bF]
 unfold dD
 clear hm
 exact walk
theorem N2:aU Tryz.prog 59=true:=by kernel_rfl
theorem Lc {a0:Str}{r:Str × Int × Int} (hm:nW a0=some r):Fun Tryz.prog 59 [vS a0] (.tup [vS r.1,vI r.2.1,vI r.2.2]) []:=by
 refine Fun.of_model (X:=fun r=>.tup [vS r.1,vI r.2.1,vI r.2.2]) (O:=fun r=>[]) Tryz.func59 rfl (Nat.le_of_ble_eq_true (by kernel_rfl)) hm ?_
 simp only [Tryz.ntmps59,Tryz.results59,bF]
 unfold nW
 clear hm
 exact walk
theorem P3:aU Tryz.prog 60=true:=by kernel_rfl
theorem NT {a0:Str}{a1:Bool}{r:Int} (hm:oI a0 a1=some r):Fun Tryz.prog 60 [vS a0,vB a1] (vI r) []:=by
 have c1:=@B9
 have e1:=Dq
 have c2:=@DC
 have e2:=D8
 refine Fun.of_model (X:=fun r=>vI r) (O:=fun r=>[]) Tryz.func60 rfl (Nat.le_of_ble_eq_true (by kernel_rfl)) hm ?_
 simp only [Tryz.ntmps60,Tryz.results60,bF]
 unfold oI
 clear hm
 exact walk
theorem PY:aU Tryz.prog 35=true:=by kernel_rfl
theorem NG {a0:Str}{r:(List aN) × Int × Int} (hm:m4 a0=some r):Fun Tryz.prog 35 [vS a0] (.tup [(sl aB) r.1,vI r.2.1,vI r.2.2]) []:=by
 have c1:=@L4
 have e1:=NN
 have c2:=@Jf
 have e2:=KK
 have c3:=@Lc
 have e3:=N2
 have c4:=@NT
 have e4:=P3
 refine Fun.of_model (X:=fun r=>.tup [(sl aB) r.1,vI r.2.1,vI r.2.2]) (O:=fun r=>[]) Tryz.func35 rfl (Nat.le_of_ble_eq_true (by kernel_rfl)) hm ?_
 simp only [Tryz.ntmps35,Tryz.results35,bF]
 unfold m4
 clear hm
 exact walk
theorem uI:aU Tryz.prog 88=true:=by kernel_rfl
theorem tX {a0:Int}{a1:Str}{a2:(List aN)}{a3:Int}{a4:(List aI)}{r:Bool} (hm:nL a0 a1 a2 a3 a4=some r):dE Tryz.prog 88 [.ptr 0 0,vI a0,vS a1] [.box [sl aB a2,vI a3,sl aD a4]] (vB r) [.box [sl aB a2,vI a3,sl aD a4]]:=by
 refine dE.of_model (oin:=[.box [sl aB a2,vI a3,sl aD a4]]) (X:=fun r=>vB r) (O:=fun r=>[.box [sl aB a2,vI a3,sl aD a4]]) Tryz.func88 rfl (Nat.le_of_ble_eq_true (by kernel_rfl)) hm (n0:=1) rfl ?_
 simp only [Tryz.ntmps88,Tryz.results88,bF]
 unfold nL
 clear hm
 exact walk
theorem sF:aU Tryz.prog 64=true:=by kernel_rfl
theorem qT {a0:Int}{a1:Str}{a2:(List aN)}{a3:Int}{a4:(List aI)}{r:Bool × Int} (hm:iH a0 a1 a2 a3 a4=some r):dE Tryz.prog 64 [.ptr 0 0,vI a0,vS a1] [.box [sl aB a2,vI a3,sl aD a4]] (vB r.1) [.box [sl aB a2,vI r.2,sl aD a4]]:=by
 have c1:=@tX
 have e1:=uI
 refine dE.of_model (oin:=[.box [sl aB a2,vI a3,sl aD a4]]) (X:=fun r=>vB r.1) (O:=fun r=>[.box [sl aB a2,vI r.2,sl aD a4]]) Tryz.func64 rfl (Nat.le_of_ble_eq_true (by kernel_rfl)) hm (n0:=1) rfl ?_
 simp only [Tryz.ntmps64,Tryz.results64,bF]
 unfold iH
 clear hm
 exact walk
theorem qM:aU Tryz.prog 86=true:=by kernel_rfl
theorem qF {a0:(List aN)}{a1:Int}{a2:(List aI)}{r:Except Flt (Unit)} (hm:jF a0 a1 a2=some r):jD Tryz.prog 86 [.ptr 0 0] [.box [sl aB a0,vI a1,sl aD a2]] (fun (r:Unit)=>.tup []) (fun (r:Unit)=>[.box [sl aB a0,vI a1,sl aD a2]]) 72 r:=by
 refine jD.of_model (oin:=[.box [sl aB a0,vI a1,sl aD a2]]) (X:=fun r=>.tup []) (O:=fun r=>[.box [sl aB a0,vI a1,sl aD a2]]) Tryz.func86 rfl (Nat.le_of_ble_eq_true (by kernel_rfl)) hm (n0:=1) rfl ?_
 simp only [Tryz.ntmps86,Tryz.results86,bF]
 unfold jF
 clear hm
 exact walk
theorem BV:aU Tryz.prog 61=true:=by kernel_rfl
theorem Bj {a0:Int}{a1:Str}{a2:(List aN)}{a3:Int}{a4:(List aI)}{r:Except Flt (Int)} (hm:iG a0 a1 a2 a3 a4=some r):jD Tryz.prog 61 [.ptr 0 0,vI a0,vS a1] [.box [sl aB a2,vI a3,sl aD a4]] (fun (r:Int)=>.tup []) (fun (r:Int)=>[.box [sl aB a2,vI r,sl aD a4]]) 72 r:=by
 have c1:=@qT
 have e1:=sF
 have c2:=@qF
 have e2:=qM
 refine jD.of_model (oin:=[.box [sl aB a2,vI a3,sl aD a4]]) (X:=fun r=>.tup []) (O:=fun r=>[.box [sl aB a2,vI r,sl aD a4]]) Tryz.func61 rfl (Nat.le_of_ble_eq_true (by kernel_rfl)) hm (n0:=1) rfl ?_
 simp only [Tryz.ntmps61,Tryz.results61,bF]
 unfold iG
 clear hm
 exact walk
end Go.Proofs.YthgenmkengbmmaaGreatDoor.AM
