/- A part of the proof: Ru1. -/
import Derived.Test.YtgkmbhllcekagaaGreatDoorGo
set_option linter.all false
/- The functions run as their models. -/
namespace Go.Proofs.YtgkmbhllcekagaaGreatDoor.AM
open Go Go.Proofs
set_option maxRecDepth 20000
set_option maxHeartbeats 4000000
theorem kF:aW Tryz.prog 30=true:=by kernel_rfl
theorem jO {a0:Str}{r:Bool} (hm:gW a0=some r):Fun Tryz.prog 30 [vS a0] (vB r) []:=by
  refine Fun.of_model (X:=fun r=>vB r) (O:=fun r=>[]) Tryz.func30 rfl (Nat.le_of_ble_eq_true (by kernel_rfl)) hm ?_
  simp only [Tryz.ntmps30,Tryz.results30,bA]
  unfold gW
  clear hm
  exact walk
theorem L7:aW Tryz.prog 84=true:=by kernel_rfl
theorem Ko {a0:(List aK)}{a1:Int}{a2:Str}{r:Bool} (hm:qC a0 a1 a2=some r):Fun Tryz.prog 84 [(sl aF) a0,vI a1,vS a2] (vB r) []:=by
  refine Fun.of_model (X:=fun r=>vB r) (O:=fun r=>[]) Tryz.func84 rfl (Nat.le_of_ble_eq_true (by kernel_rfl)) hm ?_
  simp only [Tryz.ntmps84,Tryz.results84,bA]
  unfold qC
  clear hm
  exact walk
theorem nX:aW Tryz.prog 136=true:=by kernel_rfl
theorem mZ {a0:Int}{a1:bW}{r:Bool} (hm:eO a0 a1=some r):d6 Tryz.prog 136 [.ptr 0 0,vI a0] [.box [sl aF a1.l,vI a1.i]] (vB r) [.box [sl aF a1.l,vI a1.i]]:=by
  refine d6.of_model (oin:=[.box [sl aF a1.l,vI a1.i]]) (X:=fun r=>vB r) (O:=fun r=>[.box [sl aF a1.l,vI a1.i]]) Tryz.func136 rfl (Nat.le_of_ble_eq_true (by kernel_rfl)) hm (n0:=1) rfl ?_
  simp only [Tryz.ntmps136,Tryz.results136,bA]
  unfold eO
  clear hm
  exact walk
theorem lM:aW Tryz.prog 122=true:=by kernel_rfl
theorem k8 {a0:bW}{r:Int} (hm:dF a0=some r):d6 Tryz.prog 122 [.ptr 0 0] [.box [sl aF a0.l,vI a0.i]] (vI r) [.box [sl aF a0.l,vI a0.i]]:=by
  refine d6.of_model (oin:=[.box [sl aF a0.l,vI a0.i]]) (X:=fun r=>vI r) (O:=fun r=>[.box [sl aF a0.l,vI a0.i]]) Tryz.func122 rfl (Nat.le_of_ble_eq_true (by kernel_rfl)) hm (n0:=1) rfl ?_
  simp only [Tryz.ntmps122,Tryz.results122,bA]
  unfold dF
  clear hm
  exact walk
theorem rG:aW Tryz.prog 119=true:=by kernel_rfl
theorem qG {a0:bW}{r:Str × Int × bW} (hm:iA a0=some r):d6 Tryz.prog 119 [.ptr 0 0] [.box [sl aF a0.l,vI a0.i]] (.tup [vS r.1,vI r.2.1]) [.box [sl aF r.2.2.l,vI r.2.2.i]]:=by
  have c1:=@k8
  have e1:=lM
  have c2:=@mZ
  have e2:=nX
  have c3:=@jO
  have e3:=kF
  refine d6.of_model (oin:=[.box [sl aF a0.l,vI a0.i]]) (X:=fun r=>.tup [vS r.1,vI r.2.1]) (O:=fun r=>[.box [sl aF r.2.2.l,vI r.2.2.i]]) Tryz.func119 rfl (Nat.le_of_ble_eq_true (by kernel_rfl)) hm (n0:=1) rfl ?_
  simp only [Tryz.ntmps119,Tryz.results119,bA]
  unfold iA
  clear hm
  exact walk
theorem rN:aW Tryz.prog 120=true:=by kernel_rfl
theorem qD {a0:Str}{a1:bW}{r:Bool × bW} (hm:dK a0 a1=some r):d6 Tryz.prog 120 [.ptr 0 0,vS a0] [.box [sl aF a1.l,vI a1.i]] (vB r.1) [.box [sl aF r.2.l,vI r.2.i]]:=by
  have c1:=@mZ
  have e1:=nX
  refine d6.of_model (oin:=[.box [sl aF a1.l,vI a1.i]]) (X:=fun r=>vB r.1) (O:=fun r=>[.box [sl aF r.2.l,vI r.2.i]]) Tryz.func120 rfl (Nat.le_of_ble_eq_true (by kernel_rfl)) hm (n0:=1) rfl ?_
  simp only [Tryz.ntmps120,Tryz.results120,bA]
  unfold dK
  clear hm
  exact walk
theorem zP:aW Tryz.prog 121=true:=by kernel_rfl
theorem xI {a0:Int}{a1:bW}{r:a8 × Int × bW} (hm:iZ a0 a1=some r):d6 Tryz.prog 121 [.ptr 0 0,vI a0] [.box [sl aF a1.l,vI a1.i]] (.tup [(ag aB) r.1,vI r.2.1]) [.box [sl aF r.2.2.l,vI r.2.2.i]]:=by
  have c1:=@qG
  have e1:=rG
  have c2:=@qD
  have e2:=rN
  have c3:=@k8
  have e3:=lM
  have c4:=@mZ
  have e4:=nX
  refine d6.of_model (oin:=[.box [sl aF a1.l,vI a1.i]]) (X:=fun r=>.tup [(ag aB) r.1,vI r.2.1]) (O:=fun r=>[.box [sl aF r.2.2.l,vI r.2.2.i]]) Tryz.func121 rfl (Nat.le_of_ble_eq_true (by kernel_rfl)) hm (n0:=1) rfl ?_
  simp only [Tryz.ntmps121,Tryz.results121,bA]
  unfold iZ
  clear hm
  exact walk
theorem Bq:aW Tryz.prog 99=true:=by kernel_rfl
theorem AP {a0:bW}{r:bM × Int × bW} (hm:jW a0=some r):d6 Tryz.prog 99 [.ptr 0 0] [.box [sl aF a0.l,vI a0.i]] (.tup [(ag kX) r.1,vI r.2.1]) [.box [sl aF r.2.2.l,vI r.2.2.i]]:=by
  have c1:=@qG
  have e1:=rG
  have c2:=@qD
  have e2:=rN
  have c3:=@xI
  have e3:=zP
  have c4:=@k8
  have e4:=lM
  refine d6.of_model (oin:=[.box [sl aF a0.l,vI a0.i]]) (X:=fun r=>.tup [(ag kX) r.1,vI r.2.1]) (O:=fun r=>[.box [sl aF r.2.2.l,vI r.2.2.i]]) Tryz.func99 rfl (Nat.le_of_ble_eq_true (by kernel_rfl)) hm (n0:=1) rfl ?_
  simp only [Tryz.ntmps99,Tryz.results99,bA]
  unfold jW
  clear hm
  exact walk
theorem I3:aW Tryz.prog 85=true:=by kernel_rfl
theorem Hp {a0:(List aK)}{a1:Int}{r:bM × Int × Int} (hm:tH a0 a1=some r):Fun Tryz.prog 85 [(sl aF) a0,vI a1] (.tup [(ag kX) r.1,vI r.2.1,vI r.2.2]) []:=by
  have c1:=@AP
  have e1:=Bq
  refine Fun.of_model (X:=fun r=>.tup [(ag kX) r.1,vI r.2.1,vI r.2.2]) (O:=fun r=>[]) Tryz.func85 rfl (Nat.le_of_ble_eq_true (by kernel_rfl)) hm ?_
  simp only [Tryz.ntmps85,Tryz.results85,bA]
  unfold tH
  clear hm
  exact walk
theorem B7:aW Tryz.prog 65=true:=by kernel_rfl
theorem Bm {a0:Int}{r:Bool} (hm:nF a0=some r):Fun Tryz.prog 65 [vI a0] (vB r) []:=by
  refine Fun.of_model (X:=fun r=>vB r) (O:=fun r=>[]) Tryz.func65 rfl (Nat.le_of_ble_eq_true (by kernel_rfl)) hm ?_
  simp only [Tryz.ntmps65,Tryz.results65,bA]
  unfold nF
  clear hm
  exact walk
theorem HC:aW Tryz.prog 86=true:=by kernel_rfl
theorem FO {a0:(List aK)}{a1:Int}{r:Int} (hm:jK a0 a1=some r):Fun Tryz.prog 86 [(sl aF) a0,vI a1] (vI r) []:=by
  refine Fun.of_model (X:=fun r=>vI r) (O:=fun r=>[]) Tryz.func86 rfl (Nat.le_of_ble_eq_true (by kernel_rfl)) hm ?_
  simp only [Tryz.ntmps86,Tryz.results86,bA]
  unfold jK
  clear hm
  exact walk
theorem nC:aW Tryz.prog 124=true:=by kernel_rfl
theorem m9 {a0:Str}{a1:Str}{r:Bool} (hm:eS a0 a1=some r):Fun Tryz.prog 124 [vS a0,vS a1] (vB r) []:=by
  refine Fun.of_model (X:=fun r=>vB r) (O:=fun r=>[]) Tryz.func124 rfl (Nat.le_of_ble_eq_true (by kernel_rfl)) hm ?_
  simp only [Tryz.ntmps124,Tryz.results124,bA]
  unfold eS
  clear hm
  exact walk
end Go.Proofs.YtgkmbhllcekagaaGreatDoor.AM
