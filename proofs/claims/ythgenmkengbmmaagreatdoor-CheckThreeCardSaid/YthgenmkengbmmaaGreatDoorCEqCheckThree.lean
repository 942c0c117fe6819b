/- EqCheckThree -/
import Derived.Test.YthgenmkengbmmaaGreatDoorCP3
import Derived.Test.YthgenmkengbmmaaGreatDoorCOk
import Derived.Test.YthgenmkengbmmaaGreatDoorCRl
set_option linter.all false
namespace Go.Proofs.YthgenmkengbmmaaGreatDoor.AM
open Go
noncomputable section
def law12_CheckThree (a0:(List aI)) (a1:(List aI)) (a2:(List aI)) (a3:bE):Option (Bool) :=
 aJ vB (fun x1=>[.box [vS a3.Group,vS a3.Rule]]) (law12_awake) fun x1=>
 aJ vB (fun x2=>[.box [vS a3.Group,vS a3.Rule]]) (fW a0) fun x2=>
 aA vB (!x2) fun x3=>
 aF x3 (
 aG x1) (
 aJ vB (fun x4=>[.box [vS a3.Group,vS a3.Rule]]) (fW a1) fun x4=>
 aA vB (!x4) fun x5=>
 aF x5 (
 aG x1) (
 aJ vB (fun x6=>[.box [vS a3.Group,vS a3.Rule]]) (fW a2) fun x6=>
 aA vB (!x6) fun x7=>
 aF x7 (
 aG x1) (
 aA vI ((a3.Group.length:Int)) fun x8=>
 aA vI ((a3.Rule.length:Int)) fun x9=>
 aA vI (wI (x8 + x9)) fun x10=>
 aA vB (decide ((1000:Int) < x10)) fun x11=>
 aF x11 (
 aG x1) (
 aJ vB (fun x12=>[.box [vS a3.Group,vS a3.Rule]]) (fS a0 a1 a3) fun x12=>
 aJ vB (fun x13=>[.box [vS a3.Group,vS a3.Rule]]) (fS a1 a2 a3) fun x13=>
 aJ (fun x14=>.tup [vI x14.1,vI x14.2.1,vB x14.2.2]) (fun x14=>[.box [vS a3.Group,vS a3.Rule]]) (jN a0 a3) fun x14=>
 aJ (fun x15=>.tup [vI x15.1,vI x15.2.1,vB x15.2.2]) (fun x15=>[.box [vS a3.Group,vS a3.Rule]]) (jN a1 a3) fun x15=>
 aA vB (!x12) fun x16=>
 aA vB (!x13) fun x17=>
 aA vB (bif x16 then true else x17) fun x18=>
 aF x1 (
 aF x18 (
 aA vB (bif true then true else false) fun x19=>
 aA vB (!x12) fun x20=>
 aA vB (bif x14.2.2 then x15.2.2 else false) fun x21=>
 aA vB (bif x20 then true else x21) fun x22=>
 aA vB (bif x19 then x22 else false) fun x23=>
 aF x23 (
 aJ vB (fun x24=>[.box [vS a3.Group,vS a3.Rule]]) (fS a0 a0 a3) fun x24=>
 aA vB (x24 == x14.2.2) fun x25=>
 aG x25) (
 aG false)) (
 aJ vB (fun x26=>[.box [vS a3.Group,vS a3.Rule]]) (fS a0 a2 a3) fun x26=>
 aA vB (bif false then true else x26) fun x27=>
 aA vB (!x12) fun x28=>
 aA vB (bif x14.2.2 then x15.2.2 else false) fun x29=>
 aA vB (bif x28 then true else x29) fun x30=>
 aA vB (bif x27 then x30 else false) fun x31=>
 aF x31 (
 aJ vB (fun x32=>[.box [vS a3.Group,vS a3.Rule]]) (fS a0 a0 a3) fun x32=>
 aA vB (x32 == x14.2.2) fun x33=>
 aG x33) (
 aG false))) (
 aA vB (bif x18 then true else false) fun x34=>
 aA vB (!x12) fun x35=>
 aA vB (bif x14.2.2 then x15.2.2 else false) fun x36=>
 aA vB (bif x35 then true else x36) fun x37=>
 aG false)))))
end
theorem Nk {x y z:Option bK} (h1:j9 x y=true) (h2:j9 y z=true):j9 x z=true:=by
 unfold j9 at *
 cases x with
 | none=>cases h1
 | some a=>
  cases y with
  | none=>cases h1
  | some b=>
   cases z with
   | none=>cases h2
   | some c=>
    simp only [decide_eq_true_eq] at *
    rw [h1,h2]
theorem law12_CheckThree_pl (a b c:List aI) (k:bE) (ha:BdF a) (hb:BdF b) (hc:BdF c) (hk:BdK k):law12_CheckThree a b c k=some true:=by
 obtain ⟨k1,k2⟩:=hk
 unfold law12_CheckThree
 rw [s9,aC]
 rcases tZ a ha with e | ⟨e,sa⟩
 ·rw [e]; rfl
 rcases tZ b hb with e2 | ⟨e2,sb⟩
 ·rw [e,e2]; rfl
 rcases tZ c hc with e3 | ⟨e3,sc⟩
 ·rw [e,e2,e3]; rfl
 rw [e,aC,e2,aC,e3,aC]
 simp only [aV,bP,aZ,aO,bI]
 rw [bC (by omega)]
 by_cases h:(1000:Int) < (k.Group.length:Int) + (k.Rule.length:Int)
 ·rw [if_pos h]
 rw [if_neg h]
 simp only [lL,aC,n9,Tl]
 unfold bZ
 rw [HZ]
 have tr:=@Nk (dW a k) (dW b k) (dW c k)
 have m1:j9 (dW a k) (dW b k)=true→(dW a k).isSome=true∧(dW b k).isSome=true:=fun h=>by
  unfold j9 at h
  split at h
  ·rename_i x y h1 h2; rw [h1,h2]; exact ⟨rfl,rfl⟩
  ·cases h
 cases h1:j9 (dW a k) (dW b k)
 ·simp
 ·obtain ⟨n1,n2⟩:=m1 h1
  rw [n1,n2]
  cases h2:j9 (dW b k) (dW c k)
  ·simp
  ·rw [tr h1 h2]; simp
section
open Go.Proofs
set_option maxRecDepth 20000
set_option maxHeartbeats 4000000
theorem law12_CheckThree_run {a0:(List aI)}{a1:(List aI)}{a2:(List aI)}{a3:bE}{r:Bool} (hm:law12_CheckThree a0 a1 a2 a3=some r):Fun Tryz.prog 12 [(sl aD) a0,(sl aD) a1,(sl aD) a2,(ag a7) a3] (vB r) []:=by
 have c1:=@n4
 have e1:=pJ
 have c2:=@law12_awake_run
 have e2:=mY
 have c3:=@mV
 have e3:=n7
 have c4:=@mX
 have e4:=n8
 refine Fun.of_model (X:=fun r=>vB r) (O:=fun r=>[]) Tryz.func12 rfl (Nat.le_of_ble_eq_true (by kernel_rfl)) hm ?_
 simp only [Tryz.ntmps12,Tryz.results12,bF]
 unfold law12_CheckThree
 clear hm
 exact walk
end
theorem law12_CheckThree_eq (a b c:List aI) (k:bE) (ha:(okL jH) a) (hb:(okL jH) b) (hc:(okL jH) c) (hk:zW k):law12_CheckThree a b c k=some true:=law12_CheckThree_pl a b c k (uE ha) (uE hb) (uE hc) (Hv hk)
end Go.Proofs.YthgenmkengbmmaaGreatDoor.AM
