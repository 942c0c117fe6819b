/- A part of the proof: Ru7. -/
import Derived.Test.YtgkmbhllcekagaaGreatDoorGo
import Derived.Test.YtgkmbhllcekagaaGreatDoorRf
import Derived.Test.YtgkmbhllcekagaaGreatDoorRg
set_option linter.all false
/- The functions run as their models. -/
namespace Go.Proofs.YtgkmbhllcekagaaGreatDoor.AM
open Go Go.Proofs
set_option maxRecDepth 20000
set_option maxHeartbeats 4000000
theorem FR:aW Tryz.prog 61=true:=by kernel_rfl
theorem EW {a0:Str}{r:Int × Int} (hm:o8 a0=some r):Fun Tryz.prog 61 [vS a0] (.tup [vI r.1,vI r.2]) []:=by
  have c1:=@rF
  have e1:=rY
  have c2:=@A2
  have e2:=Cb
  have c3:=@FQ
  have e3:=HB
  refine Fun.of_model (X:=fun r=>.tup [vI r.1,vI r.2]) (O:=fun r=>[]) Tryz.func61 rfl (Nat.le_of_ble_eq_true (by kernel_rfl)) hm ?_
  simp only [Tryz.ntmps61,Tryz.results61,bA]
  unfold o8
  clear hm
  exact walk
theorem CR:aW Tryz.prog 28=true:=by kernel_rfl
theorem Bt {a0:(List aK)}{a1:Int}{a2:Str}{r:Int × Int × Int} (hm:jT a0 a1 a2=some r):Fun Tryz.prog 28 [(sl aF) a0,vI a1,vS a2] (.tup [vI r.1,vI r.2.1,vI r.2.2]) []:=by
  have c1:=@dY
  have e1:=eH
  have c2:=@eP
  have e2:=fE
  have c3:=@EW
  have e3:=FR
  refine Fun.of_model (X:=fun r=>.tup [vI r.1,vI r.2.1,vI r.2.2]) (O:=fun r=>[]) Tryz.func28 rfl (Nat.le_of_ble_eq_true (by kernel_rfl)) hm ?_
  simp only [Tryz.ntmps28,Tryz.results28,bA]
  unfold jT
  clear hm
  exact walk
theorem HR:aW Tryz.prog 94=true:=by kernel_rfl
theorem GH {a0:(List aK)}{a1:Int}{r:aJ × Int × Int} (hm:rV a0 a1=some r):Fun Tryz.prog 94 [(sl aF) a0,vI a1] (.tup [(ag aD) r.1,vI r.2.1,vI r.2.2]) []:=by
  have c1:=@dY
  have e1:=eH
  have c2:=@eP
  have e2:=fE
  refine Fun.of_model (X:=fun r=>.tup [(ag aD) r.1,vI r.2.1,vI r.2.2]) (O:=fun r=>[]) Tryz.func94 rfl (Nat.le_of_ble_eq_true (by kernel_rfl)) hm ?_
  simp only [Tryz.ntmps94,Tryz.results94,bA]
  unfold rV
  clear hm
  exact walk
theorem FT:aW Tryz.prog 62=true:=by kernel_rfl
theorem EN {a0:(List aK)}{a1:Int}{r:(List aJ) × Int × Int} (hm:pA a0 a1=some r):Fun Tryz.prog 62 [(sl aF) a0,vI a1] (.tup [(sl aD) r.1,vI r.2.1,vI r.2.2]) []:=by
  have c1:=@dY
  have e1:=eH
  have c2:=@eP
  have e2:=fE
  have c3:=@GH
  have e3:=HR
  refine Fun.of_model (X:=fun r=>.tup [(sl aD) r.1,vI r.2.1,vI r.2.2]) (O:=fun r=>[]) Tryz.func62 rfl (Nat.le_of_ble_eq_true (by kernel_rfl)) hm ?_
  simp only [Tryz.ntmps62,Tryz.results62,bA]
  unfold pA
  clear hm
  exact walk
theorem FK:aW Tryz.prog 95=true:=by kernel_rfl
theorem ET {a0:(List aJ)}{r:Int} (hm:pD a0=some r):Fun Tryz.prog 95 [(sl aD) a0] (vI r) []:=by
  have c1:=@lR
  have e1:=mO
  refine Fun.of_model (X:=fun r=>vI r) (O:=fun r=>[]) Tryz.func95 rfl (Nat.le_of_ble_eq_true (by kernel_rfl)) hm ?_
  simp only [Tryz.ntmps95,Tryz.results95,bA]
  unfold pD
  clear hm
  exact walk
theorem HG:aW Tryz.prog 63=true:=by kernel_rfl
theorem FM {a0:(List aJ)}{r:(List aJ) × Int} (hm:q6 a0=some r):Fun Tryz.prog 63 [(sl aD) a0] (.tup [(sl aD) r.1,vI r.2]) []:=by
  have c1:=@ET
  have e1:=FK
  refine Fun.of_model (X:=fun r=>.tup [(sl aD) r.1,vI r.2]) (O:=fun r=>[]) Tryz.func63 rfl (Nat.le_of_ble_eq_true (by kernel_rfl)) hm ?_
  simp only [Tryz.ntmps63,Tryz.results63,bA]
  unfold q6
  clear hm
  exact walk
theorem tZ:aW Tryz.prog 16=true:=by kernel_rfl
theorem s8 {a0:Str}{r:Bool} (hm:jQ a0=some r):Fun Tryz.prog 16 [vS a0] (vB r) []:=by
  refine Fun.of_model (X:=fun r=>vB r) (O:=fun r=>[]) Tryz.func16 rfl (Nat.le_of_ble_eq_true (by kernel_rfl)) hm ?_
  simp only [Tryz.ntmps16,Tryz.results16,bA]
  unfold jQ
  clear hm
  exact walk
theorem Bo:aW Tryz.prog 39=true:=by kernel_rfl
theorem y4 {a0:(List aJ)}{r:Bool} (hm:nZ a0=some r):Fun Tryz.prog 39 [(sl aD) a0] (vB r) []:=by
  have c1:=@s8
  have e1:=tZ
  refine Fun.of_model (X:=fun r=>vB r) (O:=fun r=>[]) Tryz.func39 rfl (Nat.le_of_ble_eq_true (by kernel_rfl)) hm ?_
  simp only [Tryz.ntmps39,Tryz.results39,bA]
  unfold nZ
  clear hm
  exact walk
theorem Fv:aW Tryz.prog 29=true:=by kernel_rfl
theorem Dz {a0:(List aK)}{a1:Int}{r:(List aJ) × Int × Int} (hm:nR a0 a1=some r):Fun Tryz.prog 29 [(sl aF) a0,vI a1] (.tup [(sl aD) r.1,vI r.2.1,vI r.2.2]) []:=by
  have c1:=@dY
  have e1:=eH
  have c2:=@eP
  have e2:=fE
  have c3:=@y4
  have e3:=Bo
  have c4:=@EN
  have e4:=FT
  have c5:=@FM
  have e5:=HG
  refine Fun.of_model (X:=fun r=>.tup [(sl aD) r.1,vI r.2.1,vI r.2.2]) (O:=fun r=>[]) Tryz.func29 rfl (Nat.le_of_ble_eq_true (by kernel_rfl)) hm ?_
  simp only [Tryz.ntmps29,Tryz.results29,bA]
  unfold nR
  clear hm
  exact walk
theorem Gf:aW Tryz.prog 12=true:=by kernel_rfl
theorem EK {a0:(List aK)}{a1:Int}{r:aZ × Int × Int} (hm:jL a0 a1=some r):Fun Tryz.prog 12 [(sl aF) a0,vI a1] (.tup [(ag d9) r.1,vI r.2.1,vI r.2.2]) []:=by
  have c1:=@dY
  have e1:=eH
  have c2:=@eP
  have e2:=fE
  have c3:=@sK
  have e3:=tV
  have c4:=@E1
  have e4:=FH
  have c5:=@Bt
  have e5:=CR
  have c6:=@Dz
  have e6:=Fv
  refine Fun.of_model (X:=fun r=>.tup [(ag d9) r.1,vI r.2.1,vI r.2.2]) (O:=fun r=>[]) Tryz.func12 rfl (Nat.le_of_ble_eq_true (by kernel_rfl)) hm ?_
  simp only [Tryz.ntmps12,Tryz.results12,bA]
  unfold jL
  clear hm
  exact walk
theorem A5:aW Tryz.prog 68=true:=by kernel_rfl
theorem yI {a0:bM}{r:Bool} (hm:oB a0=some r):Fun Tryz.prog 68 [(ag kX) a0] (vB r) []:=by
  have c1:=@lR
  have e1:=mO
  refine Fun.of_model (X:=fun r=>vB r) (O:=fun r=>[]) Tryz.func68 rfl (Nat.le_of_ble_eq_true (by kernel_rfl)) hm ?_
  simp only [Tryz.ntmps68,Tryz.results68,bA]
  unfold oB
  clear hm
  exact walk
theorem Bb:aW Tryz.prog 69=true:=by kernel_rfl
theorem yU {a0:Int}{r:Bool} (hm:oI a0=some r):Fun Tryz.prog 69 [vI a0] (vB r) []:=by
  refine Fun.of_model (X:=fun r=>vB r) (O:=fun r=>[]) Tryz.func69 rfl (Nat.le_of_ble_eq_true (by kernel_rfl)) hm ?_
  simp only [Tryz.ntmps69,Tryz.results69,bA]
  unfold oI
  clear hm
  exact walk
end Go.Proofs.YtgkmbhllcekagaaGreatDoor.AM
