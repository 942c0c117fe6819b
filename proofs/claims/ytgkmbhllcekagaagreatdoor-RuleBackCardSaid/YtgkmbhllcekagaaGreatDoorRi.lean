/- A part of the proof: Ru8. -/
import Derived.Test.YtgkmbhllcekagaaGreatDoorGo
import Derived.Test.YtgkmbhllcekagaaGreatDoorRf
import Derived.Test.YtgkmbhllcekagaaGreatDoorRg
import Derived.Test.YtgkmbhllcekagaaGreatDoorRh
set_option linter.all false
/- The functions run as their models. -/
namespace Go.Proofs.YtgkmbhllcekagaaGreatDoor.AM
open Go Go.Proofs
set_option maxRecDepth 20000
set_option maxHeartbeats 4000000
theorem Bg:aW Tryz.prog 36=true:=by kernel_rfl
theorem zA {a0:bF}{r:Bool} (hm:oH a0=some r):Fun Tryz.prog 36 [(ag fX) a0] (vB r) []:=by
  have c1:=@yI
  have e1:=A5
  have c2:=@yU
  have e2:=Bb
  refine Fun.of_model (X:=fun r=>vB r) (O:=fun r=>[]) Tryz.func36 rfl (Nat.le_of_ble_eq_true (by kernel_rfl)) hm ?_
  simp only [Tryz.ntmps36,Tryz.results36,bA]
  unfold oH
  clear hm
  exact walk
theorem Bk:aW Tryz.prog 37=true:=by kernel_rfl
theorem yO {a0:Int}{r:Bool} (hm:lV a0=some r):Fun Tryz.prog 37 [vI a0] (vB r) []:=by
  refine Fun.of_model (X:=fun r=>vB r) (O:=fun r=>[]) Tryz.func37 rfl (Nat.le_of_ble_eq_true (by kernel_rfl)) hm ?_
  simp only [Tryz.ntmps37,Tryz.results37,bA]
  unfold lV
  clear hm
  exact walk
theorem HD:aW Tryz.prog 38=true:=by kernel_rfl
theorem Gi {a0:(List aJ)}{r:Bool} (hm:qU a0=some r):Fun Tryz.prog 38 [(sl aD) a0] (vB r) []:=by
  have c1:=@lR
  have e1:=mO
  refine Fun.of_model (X:=fun r=>vB r) (O:=fun r=>[]) Tryz.func38 rfl (Nat.le_of_ble_eq_true (by kernel_rfl)) hm ?_
  simp only [Tryz.ntmps38,Tryz.results38,bA]
  unfold qU
  clear hm
  exact walk
theorem A3:aW Tryz.prog 14=true:=by kernel_rfl
theorem yG {a0:aZ}{r:Bool} (hm:n5 a0=some r):Fun Tryz.prog 14 [(ag d9) a0] (vB r) []:=by
  have c1:=@lR
  have e1:=mO
  have c2:=@zA
  have e2:=Bg
  have c3:=@yO
  have e3:=Bk
  have c4:=@Gi
  have e4:=HD
  have c5:=@y4
  have e5:=Bo
  refine Fun.of_model (X:=fun r=>vB r) (O:=fun r=>[]) Tryz.func14 rfl (Nat.le_of_ble_eq_true (by kernel_rfl)) hm ?_
  simp only [Tryz.ntmps14,Tryz.results14,bA]
  unfold n5
  clear hm
  exact walk
theorem yK:aW Tryz.prog 45=true:=by kernel_rfl
theorem wN {a0:Str}{r:Str} (hm:gR a0=some r):Fun Tryz.prog 45 [vS a0] (vS r) []:=by
  refine Fun.of_model (X:=fun r=>vS r) (O:=fun r=>[]) Tryz.func45 rfl (Nat.le_of_ble_eq_true (by kernel_rfl)) hm ?_
  simp only [Tryz.ntmps45,Tryz.results45,bA]
  unfold gR
  clear hm
  exact walk
theorem F4:aW Tryz.prog 73=true:=by kernel_rfl
theorem Ft {a0:bM}{r:Str} (hm:oY a0=some r):Fun Tryz.prog 73 [(ag kX) a0] (vS r) []:=by
  have c1:=@wN
  have e1:=yK
  have c2:=@yI
  have e2:=A5
  refine Fun.of_model (X:=fun r=>vS r) (O:=fun r=>[]) Tryz.func73 rfl (Nat.le_of_ble_eq_true (by kernel_rfl)) hm ?_
  simp only [Tryz.ntmps73,Tryz.results73,bA]
  unfold oY
  clear hm
  exact walk
theorem rM:aW Tryz.prog 77=true:=by kernel_rfl
theorem BT:∀ (nrec:Nat) {a0:Int}{r:Str} (hm:iK nrec a0=some r),Fun Tryz.prog 77 [vI a0] (vS r) []:=by
  intro nrec
  induction nrec with
  | zero=>intro a0 r hm; unfold iK at hm; cases hm
  | succ nrec ih=>
    intro a0 r hm
    have c1:=@ih
    have e1:=rM
    refine Fun.of_model (X:=fun r=>vS r) (O:=fun r=>[]) Tryz.func77 rfl (Nat.le_of_ble_eq_true (by kernel_rfl)) hm ?_
    simp only [Tryz.ntmps77,Tryz.results77,bA]
    unfold iK
    clear hm
    exact walk
theorem vV {a0:Int}{r:Str} (hm:ref01_Digits a0=some r):Fun Tryz.prog 77 [vI a0] (vS r) []:=by
  unfold ref01_Digits at hm
  exact BT 64 hm
theorem yT:aW Tryz.prog 75=true:=by kernel_rfl
theorem CS:∀ (nrec:Nat) {a0:Int}{r:Str} (hm:gC nrec a0=some r),Fun Tryz.prog 75 [vI a0] (vS r) []:=by
  intro nrec
  induction nrec with
  | zero=>intro a0 r hm; unfold gC at hm; cases hm
  | succ nrec ih=>
    intro a0 r hm
    have c1:=@ih
    have e1:=yT
    have c2:=@yU
    have e2:=Bb
    have c3:=@vV
    have e3:=rM
    refine Fun.of_model (X:=fun r=>vS r) (O:=fun r=>[]) Tryz.func75 rfl (Nat.le_of_ble_eq_true (by kernel_rfl)) hm ?_
    simp only [Tryz.ntmps75,Tryz.results75,bA]
    unfold gC
    clear hm
    exact walk
theorem Eo {a0:Int}{r:Str} (hm:ref01_Print a0=some r):Fun Tryz.prog 75 [vI a0] (vS r) []:=by
  unfold ref01_Print at hm
  exact CS 64 hm
theorem Ge:aW Tryz.prog 43=true:=by kernel_rfl
theorem Fd {a0:bF}{r:Str} (hm:oW a0=some r):Fun Tryz.prog 43 [(ag fX) a0] (vS r) []:=by
  have c1:=@zA
  have e1:=Bg
  have c2:=@Ft
  have e2:=F4
  have c3:=@wQ
  have e3:=zG
  have c4:=@Eo
  have e4:=yT
  refine Fun.of_model (X:=fun r=>vS r) (O:=fun r=>[]) Tryz.func43 rfl (Nat.le_of_ble_eq_true (by kernel_rfl)) hm ?_
  simp only [Tryz.ntmps43,Tryz.results43,bA]
  unfold oW
  clear hm
  exact walk
theorem Gk:aW Tryz.prog 44=true:=by kernel_rfl
theorem Eh {a0:Int}{r:Str} (hm:lE a0=some r):Fun Tryz.prog 44 [vI a0] (vS r) []:=by
  have c1:=@yO
  have e1:=Bk
  have c2:=@rF
  have e2:=rY
  have c3:=@vV
  have e3:=rM
  refine Fun.of_model (X:=fun r=>vS r) (O:=fun r=>[]) Tryz.func44 rfl (Nat.le_of_ble_eq_true (by kernel_rfl)) hm ?_
  simp only [Tryz.ntmps44,Tryz.results44,bA]
  unfold lE
  clear hm
  exact walk
theorem GP:aW Tryz.prog 18=true:=by kernel_rfl
theorem EX {a0:aZ}{r:Str} (hm:oT a0=some r):Fun Tryz.prog 18 [(ag d9) a0] (vS r) []:=by
  have c1:=@yG
  have e1:=A3
  have c2:=@Fd
  have e2:=Ge
  have c3:=@Eh
  have e3:=Gk
  have c4:=@wN
  have e4:=yK
  refine Fun.of_model (X:=fun r=>vS r) (O:=fun r=>[]) Tryz.func18 rfl (Nat.le_of_ble_eq_true (by kernel_rfl)) hm ?_
  simp only [Tryz.ntmps18,Tryz.results18,bA]
  unfold oT
  clear hm
  exact walk
theorem Ho:aW Tryz.prog 78=true:=by kernel_rfl
theorem Gh {a0:bM}{a1:bM}{r:Bool} (hm:qR a0 a1=some r):Fun Tryz.prog 78 [(ag kX) a0,(ag kX) a1] (vB r) []:=by
  have q1:=Se; have p1:=Q2
  refine Fun.of_model (X:=fun r=>vB r) (O:=fun r=>[]) Tryz.func78 rfl (Nat.le_of_ble_eq_true (by kernel_rfl)) hm ?_
  simp only [Tryz.ntmps78,Tryz.results78,bA]
  unfold qR
  clear hm
  exact walk
end Go.Proofs.YtgkmbhllcekagaaGreatDoor.AM
