/- A part of the proof: Ru6. -/
import Derived.Test.YtgkmbhllcekagaaGreatDoorGo
import Derived.Test.YtgkmbhllcekagaaGreatDoorRf
set_option linter.all false
/- The functions run as their models. -/
namespace Go.Proofs.YtgkmbhllcekagaaGreatDoor.AM
open Go Go.Proofs
set_option maxRecDepth 20000
set_option maxHeartbeats 4000000
theorem F8:aW Tryz.prog 128=true:=by kernel_rfl
theorem Ea {a0:(List aK)}{a1:Int}{a2:Int}{r:a8 × Int × Int} (hm:o7 a0 a1 a2=some r):Fun Tryz.prog 128 [(sl aF) a0,vI a1,vI a2] (.tup [(ag aB) r.1,vI r.2.1,vI r.2.2]) []:=by
  have c1:=@dY
  have e1:=eH
  have c2:=@eP
  have e2:=fE
  have c3:=@sK
  have e3:=tV
  refine Fun.of_model (X:=fun r=>.tup [(ag aB) r.1,vI r.2.1,vI r.2.2]) (O:=fun r=>[]) Tryz.func128 rfl (Nat.le_of_ble_eq_true (by kernel_rfl)) hm ?_
  simp only [Tryz.ntmps128,Tryz.results128,bA]
  unfold o7
  clear hm
  exact walk
theorem GI:aW Tryz.prog 109=true:=by kernel_rfl
theorem EH {a0:(List aK)}{a1:Int}{r:bM × Int × Int} (hm:pF a0 a1=some r):Fun Tryz.prog 109 [(sl aF) a0,vI a1] (.tup [(ag kX) r.1,vI r.2.1,vI r.2.2]) []:=by
  have c1:=@Ea
  have e1:=F8
  have c2:=@dY
  have e2:=eH
  have c3:=@eP
  have e3:=fE
  have c4:=@sK
  have e4:=tV
  refine Fun.of_model (X:=fun r=>.tup [(ag kX) r.1,vI r.2.1,vI r.2.2]) (O:=fun r=>[]) Tryz.func109 rfl (Nat.le_of_ble_eq_true (by kernel_rfl)) hm ?_
  simp only [Tryz.ntmps109,Tryz.results109,bA]
  unfold pF
  clear hm
  exact walk
theorem zG:aW Tryz.prog 74=true:=by kernel_rfl
theorem wQ {r:(List Str)} (hm:mT=some r):Fun Tryz.prog 74 [] ((sl cS) r) []:=by
  refine Fun.of_model (X:=fun r=>(sl cS) r) (O:=fun r=>[]) Tryz.func74 rfl (Nat.le_of_ble_eq_true (by kernel_rfl)) hm ?_
  simp only [Tryz.ntmps74,Tryz.results74,bA]
  unfold mT
  clear hm
  exact walk
theorem KL:aW Tryz.prog 110=true:=by kernel_rfl
theorem Zq {a0:(List aK)}{a1:Int}{r:Int} (hm:uY a0 a1=some r):Fun Tryz.prog 110 [(sl aF) a0,vI a1] (vI r) []:=by
  have c1:=@dY
  have e1:=eH
  have c2:=@wQ
  have e2:=zG
  refine Fun.of_model (X:=fun r=>vI r) (O:=fun r=>[]) Tryz.func110 rfl (Nat.le_of_ble_eq_true (by kernel_rfl)) hm ?_
  simp only [Tryz.ntmps110,Tryz.results110,bA]
  unfold uY
  clear hm
  exact walk
theorem Gj:aW Tryz.prog 112=true:=by kernel_rfl
theorem EJ {a0:Int}{r:Bool} (hm:oS a0=some r):Fun Tryz.prog 112 [(vK .u8) a0] (vB r) []:=by
  refine Fun.of_model (X:=fun r=>vB r) (O:=fun r=>[]) Tryz.func112 rfl (Nat.le_of_ble_eq_true (by kernel_rfl)) hm ?_
  simp only [Tryz.ntmps112,Tryz.results112,bA]
  unfold oS
  clear hm
  exact walk
theorem Cb:aW Tryz.prog 92=true:=by kernel_rfl
theorem A2 {a0:Str}{a1:Int}{r:Int} (hm:nJ a0 a1=some r):Fun Tryz.prog 92 [vS a0,vI a1] (vI r) []:=by
  have c1:=@EJ
  have e1:=Gj
  refine Fun.of_model (X:=fun r=>vI r) (O:=fun r=>[]) Tryz.func92 rfl (Nat.le_of_ble_eq_true (by kernel_rfl)) hm ?_
  simp only [Tryz.ntmps92,Tryz.results92,bA]
  unfold nJ
  clear hm
  exact walk
theorem Gq:aW Tryz.prog 111=true:=by kernel_rfl
theorem Ex {a0:Str}{r:Int × Int} (hm:o5 a0=some r):Fun Tryz.prog 111 [vS a0] (.tup [vI r.1,vI r.2]) []:=by
  have c1:=@A2
  have e1:=Cb
  refine Fun.of_model (X:=fun r=>.tup [vI r.1,vI r.2]) (O:=fun r=>[]) Tryz.func111 rfl (Nat.le_of_ble_eq_true (by kernel_rfl)) hm ?_
  simp only [Tryz.ntmps111,Tryz.results111,bA]
  unfold o5
  clear hm
  exact walk
theorem FG:aW Tryz.prog 91=true:=by kernel_rfl
theorem Ey {a0:(List aK)}{a1:Int}{r:bF × Int × Int} (hm:pE a0 a1=some r):Fun Tryz.prog 91 [(sl aF) a0,vI a1] (.tup [(ag fX) r.1,vI r.2.1,vI r.2.2]) []:=by
  have c1:=@EH
  have e1:=GI
  have c2:=@Zq
  have e2:=KL
  have c3:=@Ex
  have e3:=Gq
  have c4:=@dY
  have e4:=eH
  have c5:=@eP
  have e5:=fE
  refine Fun.of_model (X:=fun r=>.tup [(ag fX) r.1,vI r.2.1,vI r.2.2]) (O:=fun r=>[]) Tryz.func91 rfl (Nat.le_of_ble_eq_true (by kernel_rfl)) hm ?_
  simp only [Tryz.ntmps91,Tryz.results91,bA]
  unfold pE
  clear hm
  exact walk
theorem wO:aW Tryz.prog 60=true:=by kernel_rfl
theorem BW:∀ (nrec:Nat) {a0:(List aK)}{a1:Int}{a2:Int}{r:bF × Int × Int} (hm:iG nrec a0 a1 a2=some r),Fun Tryz.prog 60 [(sl aF) a0,vI a1,vI a2] (.tup [(ag fX) r.1,vI r.2.1,vI r.2.2]) []:=by
  intro nrec
  induction nrec with
  | zero=>intro a0 a1 a2 r hm; unfold iG at hm; cases hm
  | succ nrec ih=>
    intro a0 a1 a2 r hm
    have c1:=@ih
    have e1:=wO
    have c2:=@dY
    have e2:=eH
    have c3:=@eP
    have e3:=fE
    have c4:=@Ey
    have e4:=FG
    refine Fun.of_model (X:=fun r=>.tup [(ag fX) r.1,vI r.2.1,vI r.2.2]) (O:=fun r=>[]) Tryz.func60 rfl (Nat.le_of_ble_eq_true (by kernel_rfl)) hm ?_
    simp only [Tryz.ntmps60,Tryz.results60,bA]
    unfold iG
    clear hm
    exact walk
theorem Du {a0:(List aK)}{a1:Int}{a2:Int}{r:bF × Int × Int} (hm:ref09_within a0 a1 a2=some r):Fun Tryz.prog 60 [(sl aF) a0,vI a1,vI a2] (.tup [(ag fX) r.1,vI r.2.1,vI r.2.2]) []:=by
  unfold ref09_within at hm
  exact BW 64 hm
theorem FH:aW Tryz.prog 27=true:=by kernel_rfl
theorem E1 {a0:(List aK)}{a1:Int}{r:bF × Int × Int} (hm:o9 a0 a1=some r):Fun Tryz.prog 27 [(sl aF) a0,vI a1] (.tup [(ag fX) r.1,vI r.2.1,vI r.2.2]) []:=by
  have c1:=@Du
  have e1:=wO
  refine Fun.of_model (X:=fun r=>.tup [(ag fX) r.1,vI r.2.1,vI r.2.2]) (O:=fun r=>[]) Tryz.func27 rfl (Nat.le_of_ble_eq_true (by kernel_rfl)) hm ?_
  simp only [Tryz.ntmps27,Tryz.results27,bA]
  unfold o9
  clear hm
  exact walk
theorem rY:aW Tryz.prog 76=true:=by kernel_rfl
theorem rF {r:(List gS)} (hm:mY=some r):Fun Tryz.prog 76 [] ((sl f0) r) []:=by
  refine Fun.of_model (X:=fun r=>(sl f0) r) (O:=fun r=>[]) Tryz.func76 rfl (Nat.le_of_ble_eq_true (by kernel_rfl)) hm ?_
  simp only [Tryz.ntmps76,Tryz.results76,bA]
  unfold mY
  clear hm
  exact walk
theorem HB:aW Tryz.prog 93=true:=by kernel_rfl
theorem FQ {a0:Str}{a1:Int}{r:Int} (hm:rP a0 a1=some r):Fun Tryz.prog 93 [vS a0,vI a1] (vI r) []:=by
  have c1:=@rF
  have e1:=rY
  refine Fun.of_model (X:=fun r=>vI r) (O:=fun r=>[]) Tryz.func93 rfl (Nat.le_of_ble_eq_true (by kernel_rfl)) hm ?_
  simp only [Tryz.ntmps93,Tryz.results93,bA]
  unfold rP
  clear hm
  exact walk
end Go.Proofs.YtgkmbhllcekagaaGreatDoor.AM
