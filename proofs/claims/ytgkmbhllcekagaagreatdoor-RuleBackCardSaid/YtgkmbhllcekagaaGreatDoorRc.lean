/- A part of the proof: Ru2. -/
import Derived.Test.YtgkmbhllcekagaaGreatDoorGo
import Derived.Test.YtgkmbhllcekagaaGreatDoorRa
import Derived.Test.YtgkmbhllcekagaaGreatDoorRb
set_option linter.all false
/- The functions run as their models. -/
namespace Go.Proofs.YtgkmbhllcekagaaGreatDoor.AM
open Go Go.Proofs
set_option maxRecDepth 20000
set_option maxHeartbeats 4000000
theorem v7:aW Tryz.prog 123=true:=by kernel_rfl
theorem uE {a0:Str}{a1:Str}{r:Str × Bool} (hm:i6 a0 a1=some r):Fun Tryz.prog 123 [vS a0,vS a1] (.tup [vS r.1,vB r.2]) []:=by
  have c1:=@m9
  have e1:=nC
  refine Fun.of_model (X:=fun r=>.tup [vS r.1,vB r.2]) (O:=fun r=>[]) Tryz.func123 rfl (Nat.le_of_ble_eq_true (by kernel_rfl)) hm ?_
  simp only [Tryz.ntmps123,Tryz.results123,bA]
  unfold i6
  clear hm
  exact walk
theorem Ao:aW Tryz.prog 100=true:=by kernel_rfl
theorem yL {a0:Str}{a1:Str}{r:Str × Bool} (hm:jI a0 a1=some r):Fun Tryz.prog 100 [vS a0,vS a1] (.tup [vS r.1,vB r.2]) []:=by
  have c1:=@uE
  have e1:=v7
  refine Fun.of_model (X:=fun r=>.tup [vS r.1,vB r.2]) (O:=fun r=>[]) Tryz.func100 rfl (Nat.le_of_ble_eq_true (by kernel_rfl)) hm ?_
  simp only [Tryz.ntmps100,Tryz.results100,bA]
  unfold jI
  clear hm
  exact walk
theorem Ky:aW Tryz.prog 101=true:=by kernel_rfl
theorem IQ {a0:Int}{a1:Int}{r:Int} (hm:p5 a0 a1=some r):Fun Tryz.prog 101 [vI a0,vI a1] (vI r) []:=by
  refine Fun.of_model (X:=fun r=>vI r) (O:=fun r=>[]) Tryz.func101 rfl (Nat.le_of_ble_eq_true (by kernel_rfl)) hm ?_
  simp only [Tryz.ntmps101,Tryz.results101,bA]
  unfold p5
  clear hm
  exact walk
theorem xN:aW Tryz.prog 66=true:=by kernel_rfl
theorem vJ {a0:Int}{r:Bool} (hm:nH a0=some r):Fun Tryz.prog 66 [vI a0] (vB r) []:=by
  refine Fun.of_model (X:=fun r=>vB r) (O:=fun r=>[]) Tryz.func66 rfl (Nat.le_of_ble_eq_true (by kernel_rfl)) hm ?_
  simp only [Tryz.ntmps66,Tryz.results66,bA]
  unfold nH
  clear hm
  exact walk
theorem IB:aW Tryz.prog 87=true:=by kernel_rfl
theorem HT {a0:Str}{r:Int × Int} (hm:tF a0=some r):Fun Tryz.prog 87 [vS a0] (.tup [vI r.1,vI r.2]) []:=by
  have c1:=@yL
  have e1:=Ao
  have c2:=@IQ
  have e2:=Ky
  have c3:=@vJ
  have e3:=xN
  refine Fun.of_model (X:=fun r=>.tup [vI r.1,vI r.2]) (O:=fun r=>[]) Tryz.func87 rfl (Nat.le_of_ble_eq_true (by kernel_rfl)) hm ?_
  simp only [Tryz.ntmps87,Tryz.results87,bA]
  unfold tF
  clear hm
  exact walk
theorem Hz:aW Tryz.prog 55=true:=by kernel_rfl
theorem GG {a0:(List aK)}{a1:Int}{r:bF × Int × Int} (hm:rB a0 a1=some r):Fun Tryz.prog 55 [(sl aF) a0,vI a1] (.tup [(ag fX) r.1,vI r.2.1,vI r.2.2]) []:=by
  have c1:=@Bm
  have e1:=B7
  have c2:=@Ko
  have e2:=L7
  have c3:=@Hp
  have e3:=I3
  have c4:=@FO
  have e4:=HC
  have c5:=@HT
  have e5:=IB
  have gr1:=LE
  refine Fun.of_model (X:=fun r=>.tup [(ag fX) r.1,vI r.2.1,vI r.2.2]) (O:=fun r=>[]) Tryz.func55 rfl (Nat.le_of_ble_eq_true (by kernel_rfl)) hm ?_
  simp only [Tryz.ntmps55,Tryz.results55,bA]
  unfold rB
  clear hm
  exact walk
theorem H1:aW Tryz.prog 102=true:=by kernel_rfl
theorem HF {a0:Str}{r:Int × Int} (hm:tC a0=some r):Fun Tryz.prog 102 [vS a0] (.tup [vI r.1,vI r.2]) []:=by
  refine Fun.of_model (X:=fun r=>.tup [vI r.1,vI r.2]) (O:=fun r=>[]) Tryz.func102 rfl (Nat.le_of_ble_eq_true (by kernel_rfl)) hm ?_
  simp only [Tryz.ntmps102,Tryz.results102,bA]
  unfold tC
  clear hm
  exact walk
theorem z7:aW Tryz.prog 103=true:=by kernel_rfl
theorem yY {a0:Str}{a1:Str}{r:Bool} (hm:iB a0 a1=some r):Fun Tryz.prog 103 [vS a0,vS a1] (vB r) []:=by
  have c1:=@m9
  have e1:=nC
  refine Fun.of_model (X:=fun r=>vB r) (O:=fun r=>[]) Tryz.func103 rfl (Nat.le_of_ble_eq_true (by kernel_rfl)) hm ?_
  simp only [Tryz.ntmps103,Tryz.results103,bA]
  unfold iB
  clear hm
  exact walk
theorem LY:aW Tryz.prog 104=true:=by kernel_rfl
theorem KE {a0:Int}{a1:Int}{a2:Int}{r:Int} (hm:uT a0 a1 a2=some r):Fun Tryz.prog 104 [vI a0,vI a1,vI a2] (vI r) []:=by
  refine Fun.of_model (X:=fun r=>vI r) (O:=fun r=>[]) Tryz.func104 rfl (Nat.le_of_ble_eq_true (by kernel_rfl)) hm ?_
  simp only [Tryz.ntmps104,Tryz.results104,bA]
  unfold uT
  clear hm
  exact walk
theorem xY:aW Tryz.prog 32=true:=by kernel_rfl
theorem vR {a0:Int}{r:Bool} (hm:nS a0=some r):Fun Tryz.prog 32 [vI a0] (vB r) []:=by
  refine Fun.of_model (X:=fun r=>vB r) (O:=fun r=>[]) Tryz.func32 rfl (Nat.le_of_ble_eq_true (by kernel_rfl)) hm ?_
  simp only [Tryz.ntmps32,Tryz.results32,bA]
  unfold nS
  clear hm
  exact walk
theorem BP:aW Tryz.prog 88=true:=by kernel_rfl
theorem Bf {a0:Str}{r:Int × Int} (hm:qA a0=some r):Fun Tryz.prog 88 [vS a0] (.tup [vI r.1,vI r.2]) []:=by
  have c1:=@HF
  have e1:=H1
  have c2:=@yY
  have e2:=z7
  have c3:=@KE
  have e3:=LY
  have c4:=@vR
  have e4:=xY
  have gr1:=Lg
  refine Fun.of_model (X:=fun r=>.tup [vI r.1,vI r.2]) (O:=fun r=>[]) Tryz.func88 rfl (Nat.le_of_ble_eq_true (by kernel_rfl)) hm ?_
  simp only [Tryz.ntmps88,Tryz.results88,bA]
  unfold qA
  clear hm
  exact walk
theorem uK:aW Tryz.prog 57=true:=by kernel_rfl
theorem tS {a0:a6}{r:Int × a6} (hm:fW a0=some r):d6 Tryz.prog 57 [.ptr 0 0,.ptr 0 7] [.box [sl aF a0.l,vI a0.i,vS a0.r.Name,vS a0.r.E.S.Name,sl aB a0.r.E.S.M,vI a0.r.E.Op,vI a0.r.E.V,vI a0.r.For,vI a0.r.Keep,sl aD a0.r.Labels]] (vI r.1) [.box [sl aF r.2.l,vI r.2.i,vS r.2.r.Name,vS r.2.r.E.S.Name,sl aB r.2.r.E.S.M,vI r.2.r.E.Op,vI r.2.r.E.V,vI r.2.r.For,vI r.2.r.Keep,sl aD r.2.r.Labels]]:=by
  have c1:=@fV
  have e1:=gK
  have c2:=@fL
  have e2:=f8
  have c3:=@Bf
  have e3:=BP
  refine d6.of_model (oin:=[.box [sl aF a0.l,vI a0.i,vS a0.r.Name,vS a0.r.E.S.Name,sl aB a0.r.E.S.M,vI a0.r.E.Op,vI a0.r.E.V,vI a0.r.For,vI a0.r.Keep,sl aD a0.r.Labels]]) (X:=fun r=>vI r.1) (O:=fun r=>[.box [sl aF r.2.l,vI r.2.i,vS r.2.r.Name,vS r.2.r.E.S.Name,sl aB r.2.r.E.S.M,vI r.2.r.E.Op,vI r.2.r.E.V,vI r.2.r.For,vI r.2.r.Keep,sl aD r.2.r.Labels]]) Tryz.func57 rfl (Nat.le_of_ble_eq_true (by kernel_rfl)) hm (n0:=1) rfl ?_
  simp only [Tryz.ntmps57,Tryz.results57,bA]
  unfold fW
  clear hm
  exact walk
end Go.Proofs.YtgkmbhllcekagaaGreatDoor.AM
