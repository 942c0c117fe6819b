/- Rf -/
import Derived.Test.YthgenmkengbmmaaGreatDoorCGo
import Derived.Test.YthgenmkengbmmaaGreatDoorCRa
import Derived.Test.YthgenmkengbmmaaGreatDoorCRb
import Derived.Test.YthgenmkengbmmaaGreatDoorCRc
import Derived.Test.YthgenmkengbmmaaGreatDoorCRd
import Derived.Test.YthgenmkengbmmaaGreatDoorCRe
set_option linter.all false
namespace Go.Proofs.YthgenmkengbmmaaGreatDoor.AM
open Go Go.Proofs
set_option maxRecDepth 20000
set_option maxHeartbeats 4000000
theorem s7:aU Tryz.prog 88=true:=by kernel_rfl
theorem sI {a0:Int}{a1:Str}{a2:(List aN)}{a3:Int}{a4:(List aI)}{r:Bool} (hm:i8 a0 a1 a2 a3 a4=some r):dE Tryz.prog 88 [.ptr 0 0,vI a0,vS a1] [.box [sl aB a2,vI a3,so 1 aD a4],.tok a4.length 4 34 false] (vB r) [.box [sl aB a2,vI a3,so 1 aD a4],.tok a4.length 4 34 false]:=by
 refine dE.of_model (oin:=[.box [sl aB a2,vI a3,so 1 aD a4],.tok a4.length 4 34 false]) (X:=fun r=>vB r) (O:=fun r=>[.box [sl aB a2,vI a3,so 1 aD a4],.tok a4.length 4 34 false]) Tryz.func88 rfl (Nat.le_of_ble_eq_true (by kernel_rfl)) hm (n0:=2) rfl ?_
 simp only [Tryz.ntmps88,Tryz.results88,bF]
 unfold i8
 clear hm
 exact walk
theorem qP:aU Tryz.prog 64=true:=by kernel_rfl
theorem qD {a0:Int}{a1:Str}{a2:(List aN)}{a3:Int}{a4:(List aI)}{r:Bool × Int} (hm:dG a0 a1 a2 a3 a4=some r):dE Tryz.prog 64 [.ptr 0 0,vI a0,vS a1] [.box [sl aB a2,vI a3,so 1 aD a4],.tok a4.length 4 34 false] (vB r.1) [.box [sl aB a2,vI r.2,so 1 aD a4],.tok a4.length 4 34 false]:=by
 have c1:=@sI
 have e1:=s7
 refine dE.of_model (oin:=[.box [sl aB a2,vI a3,so 1 aD a4],.tok a4.length 4 34 false]) (X:=fun r=>vB r.1) (O:=fun r=>[.box [sl aB a2,vI r.2,so 1 aD a4],.tok a4.length 4 34 false]) Tryz.func64 rfl (Nat.le_of_ble_eq_true (by kernel_rfl)) hm (n0:=2) rfl ?_
 simp only [Tryz.ntmps64,Tryz.results64,bF]
 unfold dG
 clear hm
 exact walk
theorem qC:aU Tryz.prog 86=true:=by kernel_rfl
theorem oZ {a0:(List aN)}{a1:Int}{a2:(List aI)}{r:Except Flt (Unit)} (hm:fB a0 a1 a2=some r):jD Tryz.prog 86 [.ptr 0 0] [.box [sl aB a0,vI a1,so 1 aD a2],.tok a2.length 4 34 false] (fun (r:Unit)=>.tup []) (fun (r:Unit)=>[.box [sl aB a0,vI a1,so 1 aD a2],.tok a2.length 4 34 false]) 72 r:=by
 refine jD.of_model (oin:=[.box [sl aB a0,vI a1,so 1 aD a2],.tok a2.length 4 34 false]) (X:=fun r=>.tup []) (O:=fun r=>[.box [sl aB a0,vI a1,so 1 aD a2],.tok a2.length 4 34 false]) Tryz.func86 rfl (Nat.le_of_ble_eq_true (by kernel_rfl)) hm (n0:=2) rfl ?_
 simp only [Tryz.ntmps86,Tryz.results86,bF]
 unfold fB
 clear hm
 exact walk
theorem Bi:aU Tryz.prog 61=true:=by kernel_rfl
theorem Ag {a0:Int}{a1:Str}{a2:(List aN)}{a3:Int}{a4:(List aI)}{r:Except Flt (Int)} (hm:cY a0 a1 a2 a3 a4=some r):jD Tryz.prog 61 [.ptr 0 0,vI a0,vS a1] [.box [sl aB a2,vI a3,so 1 aD a4],.tok a4.length 4 34 false] (fun (r:Int)=>.tup []) (fun (r:Int)=>[.box [sl aB a2,vI r,so 1 aD a4],.tok a4.length 4 34 false]) 72 r:=by
 have c1:=@qD
 have e1:=qP
 have c2:=@oZ
 have e2:=qC
 refine jD.of_model (oin:=[.box [sl aB a2,vI a3,so 1 aD a4],.tok a4.length 4 34 false]) (X:=fun r=>.tup []) (O:=fun r=>[.box [sl aB a2,vI r,so 1 aD a4],.tok a4.length 4 34 false]) Tryz.func61 rfl (Nat.le_of_ble_eq_true (by kernel_rfl)) hm (n0:=2) rfl ?_
 simp only [Tryz.ntmps61,Tryz.results61,bF]
 unfold cY
 clear hm
 exact walk
theorem qZ:aU Tryz.prog 62=true:=by kernel_rfl
theorem qE {a0:Int}{a1:(List aN)}{a2:Int}{a3:(List aI)}{r:Except Flt (Str × Int)} (hm:gK a0 a1 a2 a3=some r):jD Tryz.prog 62 [.ptr 0 0,vI a0] [.box [sl aB a1,vI a2,so 1 aD a3],.tok a3.length 4 34 false] (fun (r:Str × Int)=>vS r.1) (fun (r:Str × Int)=>[.box [sl aB a1,vI r.2,so 1 aD a3],.tok a3.length 4 34 false]) 72 r:=by
 have c1:=@oZ
 have e1:=qC
 refine jD.of_model (oin:=[.box [sl aB a1,vI a2,so 1 aD a3],.tok a3.length 4 34 false]) (X:=fun r=>vS r.1) (O:=fun r=>[.box [sl aB a1,vI r.2,so 1 aD a3],.tok a3.length 4 34 false]) Tryz.func62 rfl (Nat.le_of_ble_eq_true (by kernel_rfl)) hm (n0:=2) rfl ?_
 simp only [Tryz.ntmps62,Tryz.results62,bF]
 unfold gK
 clear hm
 exact walk
theorem xC:aU Tryz.prog 63=true:=by kernel_rfl
theorem wN {a0:(List aN)}{a1:Int}{a2:(List aI)}{r:Except Flt (Int × Int)} (hm:eT a0 a1 a2=some r):jD Tryz.prog 63 [.ptr 0 0] [.box [sl aB a0,vI a1,so 1 aD a2],.tok a2.length 4 34 false] (fun (r:Int × Int)=>vI r.1) (fun (r:Int × Int)=>[.box [sl aB a0,vI r.2,so 1 aD a2],.tok a2.length 4 34 false]) 72 r:=by
 have c1:=@qE
 have e1:=qZ
 have c2:=@rJ
 have e2:=tF
 refine jD.of_model (oin:=[.box [sl aB a0,vI a1,so 1 aD a2],.tok a2.length 4 34 false]) (X:=fun r=>vI r.1) (O:=fun r=>[.box [sl aB a0,vI r.2,so 1 aD a2],.tok a2.length 4 34 false]) Tryz.func63 rfl (Nat.le_of_ble_eq_true (by kernel_rfl)) hm (n0:=2) rfl ?_
 simp only [Tryz.ntmps63,Tryz.results63,bF]
 unfold eT
 clear hm
 exact walk
theorem Bb:aU Tryz.prog 65=true:=by kernel_rfl
theorem Ah {a0:(List a6)}{a1:(List aN)}{a2:Int}{a3:(List aI)}{r:Except Flt (a6 × Int)} (hm:gM a0 a1 a2 a3=some r):jD Tryz.prog 65 [.ptr 0 0,sl bL a0] [.box [sl aB a1,vI a2,so 1 aD a3],.tok a3.length 4 34 false] (fun (r:a6 × Int)=>(ag bL) r.1) (fun (r:a6 × Int)=>[.box [sl aB a1,vI r.2,so 1 aD a3],.tok a3.length 4 34 false]) 72 r:=by
 have c1:=@sI
 have e1:=s7
 have c2:=@rM
 have e2:=tY
 have c3:=@B2
 have e3:=Dn
 refine jD.of_model (oin:=[.box [sl aB a1,vI a2,so 1 aD a3],.tok a3.length 4 34 false]) (X:=fun r=>(ag bL) r.1) (O:=fun r=>[.box [sl aB a1,vI r.2,so 1 aD a3],.tok a3.length 4 34 false]) Tryz.func65 rfl (Nat.le_of_ble_eq_true (by kernel_rfl)) hm (n0:=2) rfl ?_
 simp only [Tryz.ntmps65,Tryz.results65,bF]
 unfold gM
 clear hm
 exact walk
theorem Ae:aU Tryz.prog 37=true:=by kernel_rfl
theorem yM {a0:(List aN)}{a1:Int}{a2:(List aI)}{r:Except Flt (aI × Int)} (hm:iT a0 a1 a2=some r):jD Tryz.prog 37 [.ptr 0 0] [.box [sl aB a0,vI a1,so 1 aD a2],.tok a2.length 4 34 false] (fun (r:aI × Int)=>(ag aD) r.1) (fun (r:aI × Int)=>[.box [sl aB a0,vI r.2,so 1 aD a2],.tok a2.length 4 34 false]) 72 r:=by
 have c1:=@Ag
 have e1:=Bi
 have c2:=@qE
 have e2:=qZ
 have c3:=@wN
 have e3:=xC
 have c4:=@qD
 have e4:=qP
 have c5:=@Ah
 have e5:=Bb
 have c6:=@qJ
 have e6:=rK
 have c7:=@f7
 have e7:=gV
 refine jD.of_model (oin:=[.box [sl aB a0,vI a1,so 1 aD a2],.tok a2.length 4 34 false]) (X:=fun r=>(ag aD) r.1) (O:=fun r=>[.box [sl aB a0,vI r.2,so 1 aD a2],.tok a2.length 4 34 false]) Tryz.func37 rfl (Nat.le_of_ble_eq_true (by kernel_rfl)) hm (n0:=2) rfl ?_
 simp only [Tryz.ntmps37,Tryz.results37,bF]
 unfold iT
 clear hm
 exact walk
theorem Fi:aU Tryz.prog 36=true:=by kernel_rfl
theorem Ek {z:Flt}{a0:Str}{a1:(List aI)}{a2:Int}{a3:Int}{a4:(List aN)}{r:(List aI) × Int × Int} (hm:m6 z a0 a1 a2 a3 a4=some r):AN Tryz.prog 36 [.ptr 0 0,.ptr 1 0,.ptr 2 0,.ptr 3 0,.ptr 4 0] (pE 72 z) [.box [vS a0],.box [sl aD a1],.box [vI a2],.box [vI a3],.box [sl aB a4]] [.box [vS a0],.box [sl aD r.1],.box [vI r.2.1],.box [vI r.2.2],.box [sl aB a4]]:=by
 refine AN.of_model (oin:=[.box [vS a0],.box [sl aD a1],.box [vI a2],.box [vI a3],.box [sl aB a4]]) (O:=fun r=>[.box [vS a0],.box [sl aD r.1],.box [vI r.2.1],.box [vI r.2.2],.box [sl aB a4]]) Tryz.func36 rfl rfl rfl rfl (Nat.le_of_ble_eq_true (by kernel_rfl)) hm (n0:=5) rfl ?_
 simp only [Tryz.ntmps36,Tryz.results36,bF]
 unfold m6
 clear hm
 exact walk
theorem DN (cap:List AV) (objs:List Obj) (hk:cap.length=5):A2 Tryz.prog 36 cap objs:=by
 refine A2.of_model Tryz.func36 rfl rfl rfl rfl (Nat.le_of_ble_eq_true (by kernel_rfl)) (m:=M7<|
 aG true) rfl ?_ cap objs hk
 simp only [Tryz.ntmps36,Tryz.results36]
 exact walk
theorem Kr:aU Tryz.prog 16=true:=by kernel_rfl
theorem IH {a0:Str}{r:(List aI) × Int × Int} (hm:kT a0=some r):Fun Tryz.prog 16 [vS a0] (.tup [(sl aD) r.1,vI r.2.1,vI r.2.2]) []:=by
 have c1:=@Ek
 have e1:=Fi
 have c2:=@Af
 have e2:=Bm
 have c3:=@yM
 have e3:=Ae
 have c4:=@NG
 have e4:=PY
 have kz:=DN
 refine dE.fun (dE.of_modelD (oin:=[]) (X:=fun r=>.tup [(sl aD) r.1,vI r.2.1,vI r.2.2]) (O:=fun r=>[]) Tryz.func16 rfl (Nat.le_of_ble_eq_true (by kernel_rfl)) hm (n0:=0) rfl ?_)
 simp only [Tryz.ntmps16,Tryz.results16,bF]
 unfold kT
 clear hm
 exact walk
theorem Fz:aU Tryz.prog 69=true:=by kernel_rfl
theorem EA {a0:cT}{r:Bool} (hm:uN a0=some r):Fun Tryz.prog 69 [(ag rI) a0] (vB r) []:=by
 have c1:=@f7
 have e1:=gV
 refine Fun.of_model (X:=fun r=>vB r) (O:=fun r=>[]) Tryz.func69 rfl (Nat.le_of_ble_eq_true (by kernel_rfl)) hm ?_
 simp only [Tryz.ntmps69,Tryz.results69,bF]
 unfold uN
 clear hm
 exact walk
theorem Eh:aU Tryz.prog 42=true:=by kernel_rfl
theorem Dw {a0:cG}{r:Bool} (hm:sK a0=some r):Fun Tryz.prog 42 [(ag wC) a0] (vB r) []:=by
 have c1:=@EA
 have e1:=Fz
 have c2:=@DE
 have e2:=Ea
 have c3:=@zO
 have e3:=Bf
 refine Fun.of_model (X:=fun r=>vB r) (O:=fun r=>[]) Tryz.func42 rfl (Nat.le_of_ble_eq_true (by kernel_rfl)) hm ?_
 simp only [Tryz.ntmps42,Tryz.results42,bF]
 unfold sK
 clear hm
 exact walk
end Go.Proofs.YthgenmkengbmmaaGreatDoor.AM
