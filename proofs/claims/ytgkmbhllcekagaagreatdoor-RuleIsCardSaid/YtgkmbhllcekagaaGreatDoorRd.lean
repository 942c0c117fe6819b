/- A part of the proof: Ru3. -/
import Derived.Test.YtgkmbhllcekagaaGreatDoorGo
import Derived.Test.YtgkmbhllcekagaaGreatDoorRa
import Derived.Test.YtgkmbhllcekagaaGreatDoorRb
import Derived.Test.YtgkmbhllcekagaaGreatDoorRc
set_option linter.all false
/- The functions run as their models. -/
namespace Go.Proofs.YtgkmbhllcekagaaGreatDoor.AM
open Go Go.Proofs
set_option maxRecDepth 20000
set_option maxHeartbeats 4000000
theorem wF:aW Tryz.prog 56=true:=by kernel_rfl
theorem vH {a0:a6}{r:Int × a6} (hm:hJ a0=some r):d6 Tryz.prog 56 [.ptr 0 0] [.box [.ptr 1 0],.box [sl aF a0.l,vI a0.i,vS a0.r.Name,vS a0.r.E.S.Name,sl aB a0.r.E.S.M,vI a0.r.E.Op,vI a0.r.E.V,vI a0.r.For,vI a0.r.Keep,sl aD a0.r.Labels]] (vI r.1) [.box [.ptr 1 0],.box [sl aF r.2.l,vI r.2.i,vS r.2.r.Name,vS r.2.r.E.S.Name,sl aB r.2.r.E.S.M,vI r.2.r.E.Op,vI r.2.r.E.V,vI r.2.r.For,vI r.2.r.Keep,sl aD r.2.r.Labels]]:=by
  have c1:=@tS
  have e1:=uK
  refine d6.of_model (oin:=[.box [.ptr 1 0],.box [sl aF a0.l,vI a0.i,vS a0.r.Name,vS a0.r.E.S.Name,sl aB a0.r.E.S.M,vI a0.r.E.Op,vI a0.r.E.V,vI a0.r.For,vI a0.r.Keep,sl aD a0.r.Labels]]) (X:=fun r=>vI r.1) (O:=fun r=>[.box [.ptr 1 0],.box [sl aF r.2.l,vI r.2.i,vS r.2.r.Name,vS r.2.r.E.S.Name,sl aB r.2.r.E.S.M,vI r.2.r.E.Op,vI r.2.r.E.V,vI r.2.r.For,vI r.2.r.Keep,sl aD r.2.r.Labels]]) Tryz.func56 rfl (Nat.le_of_ble_eq_true (by kernel_rfl)) hm (n0:=2) rfl ?_
  simp only [Tryz.ntmps56,Tryz.results56,bA]
  unfold hJ
  clear hm
  exact walk
theorem tT:aW Tryz.prog 57=true:=by kernel_rfl
theorem tM {a0:a6}{r:Int × a6} (hm:fM a0=some r):d6 Tryz.prog 57 [.ptr 0 0,.ptr 0 8] [.box [sl aF a0.l,vI a0.i,vS a0.r.Name,vS a0.r.E.S.Name,sl aB a0.r.E.S.M,vI a0.r.E.Op,vI a0.r.E.V,vI a0.r.For,vI a0.r.Keep,sl aD a0.r.Labels]] (vI r.1) [.box [sl aF r.2.l,vI r.2.i,vS r.2.r.Name,vS r.2.r.E.S.Name,sl aB r.2.r.E.S.M,vI r.2.r.E.Op,vI r.2.r.E.V,vI r.2.r.For,vI r.2.r.Keep,sl aD r.2.r.Labels]]:=by
  have c1:=@fV
  have e1:=gK
  have c2:=@fL
  have e2:=f8
  have c3:=@Bf
  have e3:=BP
  refine d6.of_model (oin:=[.box [sl aF a0.l,vI a0.i,vS a0.r.Name,vS a0.r.E.S.Name,sl aB a0.r.E.S.M,vI a0.r.E.Op,vI a0.r.E.V,vI a0.r.For,vI a0.r.Keep,sl aD a0.r.Labels]]) (X:=fun r=>vI r.1) (O:=fun r=>[.box [sl aF r.2.l,vI r.2.i,vS r.2.r.Name,vS r.2.r.E.S.Name,sl aB r.2.r.E.S.M,vI r.2.r.E.Op,vI r.2.r.E.V,vI r.2.r.For,vI r.2.r.Keep,sl aD r.2.r.Labels]]) Tryz.func57 rfl (Nat.le_of_ble_eq_true (by kernel_rfl)) hm (n0:=1) rfl ?_
  simp only [Tryz.ntmps57,Tryz.results57,bA]
  unfold fM
  clear hm
  exact walk
theorem wG:aW Tryz.prog 58=true:=by kernel_rfl
theorem wE {a0:a6}{r:Int × a6} (hm:g8 a0=some r):d6 Tryz.prog 58 [.ptr 0 0] [.box [.ptr 1 0],.box [sl aF a0.l,vI a0.i,vS a0.r.Name,vS a0.r.E.S.Name,sl aB a0.r.E.S.M,vI a0.r.E.Op,vI a0.r.E.V,vI a0.r.For,vI a0.r.Keep,sl aD a0.r.Labels]] (vI r.1) [.box [.ptr 1 0],.box [sl aF r.2.l,vI r.2.i,vS r.2.r.Name,vS r.2.r.E.S.Name,sl aB r.2.r.E.S.M,vI r.2.r.E.Op,vI r.2.r.E.V,vI r.2.r.For,vI r.2.r.Keep,sl aD r.2.r.Labels]]:=by
  have c1:=@tM
  have e1:=tT
  refine d6.of_model (oin:=[.box [.ptr 1 0],.box [sl aF a0.l,vI a0.i,vS a0.r.Name,vS a0.r.E.S.Name,sl aB a0.r.E.S.M,vI a0.r.E.Op,vI a0.r.E.V,vI a0.r.For,vI a0.r.Keep,sl aD a0.r.Labels]]) (X:=fun r=>vI r.1) (O:=fun r=>[.box [.ptr 1 0],.box [sl aF r.2.l,vI r.2.i,vS r.2.r.Name,vS r.2.r.E.S.Name,sl aB r.2.r.E.S.M,vI r.2.r.E.Op,vI r.2.r.E.V,vI r.2.r.For,vI r.2.r.Keep,sl aD r.2.r.Labels]]) Tryz.func58 rfl (Nat.le_of_ble_eq_true (by kernel_rfl)) hm (n0:=2) rfl ?_
  simp only [Tryz.ntmps58,Tryz.results58,bA]
  unfold g8
  clear hm
  exact walk
theorem yS:aW Tryz.prog 89=true:=by kernel_rfl
theorem xF {a0:a6}{r:aJ × Int × a6} (hm:iQ a0=some r):d6 Tryz.prog 89 [.ptr 0 0] [.box [sl aF a0.l,vI a0.i,vS a0.r.Name,vS a0.r.E.S.Name,sl aB a0.r.E.S.M,vI a0.r.E.Op,vI a0.r.E.V,vI a0.r.For,vI a0.r.Keep,sl aD a0.r.Labels]] (.tup [(ag aD) r.1,vI r.2.1]) [.box [sl aF r.2.2.l,vI r.2.2.i,vS r.2.2.r.Name,vS r.2.2.r.E.S.Name,sl aB r.2.2.r.E.S.M,vI r.2.2.r.E.Op,vI r.2.2.r.E.V,vI r.2.2.r.For,vI r.2.2.r.Keep,sl aD r.2.2.r.Labels]]:=by
  have c1:=@kZ
  have e1:=lN
  have c2:=@fV
  have e2:=gK
  have c3:=@fL
  have e3:=f8
  refine d6.of_model (oin:=[.box [sl aF a0.l,vI a0.i,vS a0.r.Name,vS a0.r.E.S.Name,sl aB a0.r.E.S.M,vI a0.r.E.Op,vI a0.r.E.V,vI a0.r.For,vI a0.r.Keep,sl aD a0.r.Labels]]) (X:=fun r=>.tup [(ag aD) r.1,vI r.2.1]) (O:=fun r=>[.box [sl aF r.2.2.l,vI r.2.2.i,vS r.2.2.r.Name,vS r.2.2.r.E.S.Name,sl aB r.2.2.r.E.S.M,vI r.2.2.r.E.Op,vI r.2.2.r.E.V,vI r.2.2.r.For,vI r.2.2.r.Keep,sl aD r.2.2.r.Labels]]) Tryz.func89 rfl (Nat.le_of_ble_eq_true (by kernel_rfl)) hm (n0:=1) rfl ?_
  simp only [Tryz.ntmps89,Tryz.results89,bA]
  unfold iQ
  clear hm
  exact walk
theorem uA:aW Tryz.prog 105=true:=by kernel_rfl
theorem tW {a0:(List aJ)}{r:(List aJ)} (hm:fU a0=some r):Fun Tryz.prog 105 [(sl aD) a0] (so 0 aD r) [tk r.length 2 47]:=by
  refine Fun.of_model (X:=fun r=>so 0 aD r) (O:=fun r=>[tk r.length 2 47]) Tryz.func105 rfl (Nat.le_of_ble_eq_true (by kernel_rfl)) hm ?_
  simp only [Tryz.ntmps105,Tryz.results105,bA]
  unfold fU
  clear hm
  exact walk
theorem Bp:aW Tryz.prog 127=true:=by kernel_rfl
theorem Al {a0:Str}{r:Bool} (hm:jX a0=some r):Fun Tryz.prog 127 [vS a0] (vB r) []:=by
  refine Fun.of_model (X:=fun r=>vB r) (O:=fun r=>[]) Tryz.func127 rfl (Nat.le_of_ble_eq_true (by kernel_rfl)) hm ?_
  simp only [Tryz.ntmps127,Tryz.results127,bA]
  unfold jX
  clear hm
  exact walk
theorem zI:aW Tryz.prog 108=true:=by kernel_rfl
theorem yE {a0:Str}{a1:Str}{r:Int} (hm:iU a0 a1=some r):Fun Tryz.prog 108 [vS a0,vS a1] (vI r) []:=by
  have c1:=@Al
  have e1:=Bp
  refine Fun.of_model (X:=fun r=>vI r) (O:=fun r=>[]) Tryz.func108 rfl (Nat.le_of_ble_eq_true (by kernel_rfl)) hm ?_
  simp only [Tryz.ntmps108,Tryz.results108,bA]
  unfold iU
  clear hm
  exact walk
theorem EZ:aW Tryz.prog 107=true:=by kernel_rfl
theorem DR {a0:aJ}{a1:aJ}{r:Int} (hm:nA a0 a1=some r):Fun Tryz.prog 107 [(ag aD) a0,(ag aD) a1] (vI r) []:=by
  have c1:=@yE
  have e1:=zI
  refine Fun.of_model (X:=fun r=>vI r) (O:=fun r=>[]) Tryz.func107 rfl (Nat.le_of_ble_eq_true (by kernel_rfl)) hm ?_
  simp only [Tryz.ntmps107,Tryz.results107,bA]
  unfold nA
  clear hm
  exact walk
theorem Hv:aW Tryz.prog 90=true:=by kernel_rfl
theorem GC {a0:(List aJ)}{r:(List aJ) × Int} (hm:qP a0=some r):Fun Tryz.prog 90 [(sl aD) a0] (.tup [(sl aD) r.1,vI r.2]) []:=by
  have c1:=@tW
  have e1:=uA
  have c2:=@DR
  have e2:=EZ
  have c3:=@jO
  have e3:=kF
  have z1:=Uh
  have s1:=Fg
  have so1:=DC
  have se1:=Mg
  have j1:=@MC
  refine Fun.of_model (X:=fun r=>.tup [(sl aD) r.1,vI r.2]) (O:=fun r=>[]) Tryz.func90 rfl (Nat.le_of_ble_eq_true (by kernel_rfl)) hm ?_
  simp only [Tryz.ntmps90,Tryz.results90,bA]
  unfold qP
  clear hm
  exact walk
theorem lW:aW Tryz.prog 15=true:=by kernel_rfl
theorem lH {a0:Str}{r:Bool} (hm:eZ a0=some r):Fun Tryz.prog 15 [vS a0] (vB r) []:=by
  refine Fun.of_model (X:=fun r=>vB r) (O:=fun r=>[]) Tryz.func15 rfl (Nat.le_of_ble_eq_true (by kernel_rfl)) hm ?_
  simp only [Tryz.ntmps15,Tryz.results15,bA]
  unfold eZ
  clear hm
  exact walk
theorem vY:aW Tryz.prog 34=true:=by kernel_rfl
theorem t6 {a0:(List aJ)}{r:Bool} (hm:kE a0=some r):Fun Tryz.prog 34 [(sl aD) a0] (vB r) []:=by
  have c1:=@lH
  have e1:=lW
  refine Fun.of_model (X:=fun r=>vB r) (O:=fun r=>[]) Tryz.func34 rfl (Nat.le_of_ble_eq_true (by kernel_rfl)) hm ?_
  simp only [Tryz.ntmps34,Tryz.results34,bA]
  unfold kE
  clear hm
  exact walk
theorem wH:aW Tryz.prog 59=true:=by kernel_rfl
theorem u7 {a0:a6}{r:Int × a6} (hm:gU a0=some r):d6 Tryz.prog 59 [.ptr 0 0] [.box [sl aF a0.l,vI a0.i,vS a0.r.Name,vS a0.r.E.S.Name,sl aB a0.r.E.S.M,vI a0.r.E.Op,vI a0.r.E.V,vI a0.r.For,vI a0.r.Keep,sl aD a0.r.Labels]] (vI r.1) [.box [sl aF r.2.l,vI r.2.i,vS r.2.r.Name,vS r.2.r.E.S.Name,sl aB r.2.r.E.S.M,vI r.2.r.E.Op,vI r.2.r.E.V,vI r.2.r.For,vI r.2.r.Keep,sl aD r.2.r.Labels]]:=by
  have c1:=@kZ
  have e1:=lN
  have c2:=@fL
  have e2:=f8
  have c3:=@qW
  have e3:=rX
  have c4:=@xF
  have e4:=yS
  have c5:=@t6
  have e5:=vY
  have c6:=@GC
  have e6:=Hv
  refine d6.of_model (oin:=[.box [sl aF a0.l,vI a0.i,vS a0.r.Name,vS a0.r.E.S.Name,sl aB a0.r.E.S.M,vI a0.r.E.Op,vI a0.r.E.V,vI a0.r.For,vI a0.r.Keep,sl aD a0.r.Labels]]) (X:=fun r=>vI r.1) (O:=fun r=>[.box [sl aF r.2.l,vI r.2.i,vS r.2.r.Name,vS r.2.r.E.S.Name,sl aB r.2.r.E.S.M,vI r.2.r.E.Op,vI r.2.r.E.V,vI r.2.r.For,vI r.2.r.Keep,sl aD r.2.r.Labels]]) Tryz.func59 rfl (Nat.le_of_ble_eq_true (by kernel_rfl)) hm (n0:=1) rfl ?_
  simp only [Tryz.ntmps59,Tryz.results59,bA]
  unfold gU
  clear hm
  exact walk
end Go.Proofs.YtgkmbhllcekagaaGreatDoor.AM
