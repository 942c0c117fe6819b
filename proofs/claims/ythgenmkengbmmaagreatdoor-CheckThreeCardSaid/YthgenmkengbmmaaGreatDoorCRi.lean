/- Ri -/
import Derived.Test.YthgenmkengbmmaaGreatDoorCGo
import Derived.Test.YthgenmkengbmmaaGreatDoorCRf
import Derived.Test.YthgenmkengbmmaaGreatDoorCRg
import Derived.Test.YthgenmkengbmmaaGreatDoorCRh
set_option linter.all false
namespace Go.Proofs.YthgenmkengbmmaaGreatDoor.AM
open Go Go.Proofs
set_option maxRecDepth 20000
set_option maxHeartbeats 4000000
theorem tR:aU Tryz.prog 48=true:=by kernel_rfl
theorem rR {a0:(List aI)}{r:(List aI)} (hm:lH a0=some r):Fun Tryz.prog 48 [(sl aD) a0] ((sl aD) r) []:=by
 have c1:=@w6
 have e1:=zD
 refine Fun.of_model (X:=fun r=>(sl aD) r) (O:=fun r=>[]) Tryz.func48 rfl (Nat.le_of_ble_eq_true (by kernel_rfl)) hm ?_
 simp only [Tryz.ntmps48,Tryz.results48,bF]
 unfold lH
 clear hm
 exact walk
theorem xJ:aU Tryz.prog 50=true:=by kernel_rfl
theorem wL {a0:(List aI)}{r:(List (bE × bK))} (hm:iE a0=some r):Fun Tryz.prog 50 [(sl aD) a0] (.map 0) [.map (mp (kC a7) (ag bB) r)]:=by
 have c1:=@Jo
 have e1:=Kc
 have c2:=@rR
 have e2:=tR
 have k1:=RY
 have y1:=QM
 refine Fun.of_model (X:=fun r=>.map 0) (O:=fun r=>[.map (mp (kC a7) (ag bB) r)]) Tryz.func50 rfl (Nat.le_of_ble_eq_true (by kernel_rfl)) hm ?_
 simp only [Tryz.ntmps50,Tryz.results50,bF]
 unfold iE
 clear hm
 exact walk
theorem lN:aU Tryz.prog 27=true:=by kernel_rfl
theorem kW {a0:(List aI)}{r:(List bE)} (hm:g5 a0=some r):Fun Tryz.prog 27 [(sl aD) a0] ((sl a7) r) []:=by
 have c1:=@rR
 have e1:=tR
 refine Fun.of_model (X:=fun r=>(sl a7) r) (O:=fun r=>[]) Tryz.func27 rfl (Nat.le_of_ble_eq_true (by kernel_rfl)) hm ?_
 simp only [Tryz.ntmps27,Tryz.results27,bF]
 unfold g5
 clear hm
 exact walk
theorem AC:aU Tryz.prog 51=true:=by kernel_rfl
theorem zC {a0:bE}{a1:(List (bE × bK))}{a2:(List (bE × bK))}{r:Bool} (hm:kZ a0 a1 a2=some r):dE Tryz.prog 51 [.map 0,.map 1,.agg [vS a0.Group,vS a0.Rule]] [.map (mp (kC a7) (ag bB) a1),.map (mp (kC a7) (ag bB) a2)] (vB r) [.map (mp (kC a7) (ag bB) a1),.map (mp (kC a7) (ag bB) a2)]:=by
 have q1:=Ut; have p1:=TH
 have z1:=Vu
 have k1:=RY
 have y1:=QM
 refine dE.of_model (oin:=[.map (mp (kC a7) (ag bB) a1),.map (mp (kC a7) (ag bB) a2)]) (X:=fun r=>vB r) (O:=fun r=>[.map (mp (kC a7) (ag bB) a1),.map (mp (kC a7) (ag bB) a2)]) Tryz.func51 rfl (Nat.le_of_ble_eq_true (by kernel_rfl)) hm (n0:=2) rfl ?_
 simp only [Tryz.ntmps51,Tryz.results51,bF]
 unfold kZ
 clear hm
 exact walk
theorem oS:aU Tryz.prog 24=true:=by kernel_rfl
theorem nY {a0:(List aI)}{a1:(List aI)}{r:(List bE) × (List bE) × (List bE)} (hm:eM a0 a1=some r):Fun Tryz.prog 24 [(sl aD) a0,(sl aD) a1] (.tup [(sl a7) r.1,(sl a7) r.2.1,(sl a7) r.2.2]) []:=by
 have c1:=@zC
 have e1:=AC
 have c2:=@kW
 have e2:=lN
 have c3:=@wL
 have e3:=xJ
 refine Fun.of_model (X:=fun r=>.tup [(sl a7) r.1,(sl a7) r.2.1,(sl a7) r.2.2]) (O:=fun r=>[]) Tryz.func24 rfl (Nat.le_of_ble_eq_true (by kernel_rfl)) hm ?_
 simp only [Tryz.ntmps24,Tryz.results24,bF]
 unfold eM
 clear hm
 exact walk
theorem n7:aU Tryz.prog 22=true:=by kernel_rfl
theorem mV {a0:(List aI)}{a1:bE}{r:Int × Int × Bool} (hm:jN a0 a1=some r):Fun Tryz.prog 22 [(sl aD) a0,(ag a7) a1] (.tup [vI r.1,vI r.2.1,vB r.2.2]) []:=by
 have c1:=@rR
 have e1:=tR
 have q1:=Lt; have p1:=LB
 refine Fun.of_model (X:=fun r=>.tup [vI r.1,vI r.2.1,vB r.2.2]) (O:=fun r=>[]) Tryz.func22 rfl (Nat.le_of_ble_eq_true (by kernel_rfl)) hm ?_
 simp only [Tryz.ntmps22,Tryz.results22,bF]
 unfold jN
 clear hm
 exact walk
theorem n8:aU Tryz.prog 29=true:=by kernel_rfl
theorem mX {a0:(List aI)}{a1:(List aI)}{a2:bE}{r:Bool} (hm:fS a0 a1 a2=some r):Fun Tryz.prog 29 [(sl aD) a0,(sl aD) a1,(ag a7) a2] (vB r) []:=by
 have c1:=@zC
 have e1:=AC
 have c2:=@wL
 have e2:=xJ
 refine Fun.of_model (X:=fun r=>vB r) (O:=fun r=>[]) Tryz.func29 rfl (Nat.le_of_ble_eq_true (by kernel_rfl)) hm ?_
 simp only [Tryz.ntmps29,Tryz.results29,bF]
 unfold fS
 clear hm
 exact walk
end Go.Proofs.YthgenmkengbmmaaGreatDoor.AM
