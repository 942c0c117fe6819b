/- EqCheckTurn -/
import Derived.Test.YthgenmkengbmmaaGreatDoorCP3
import Derived.Test.YthgenmkengbmmaaGreatDoorCOk
import Derived.Test.YthgenmkengbmmaaGreatDoorCRl
set_option linter.all false
namespace Go.Proofs.YthgenmkengbmmaaGreatDoor.AM
open Go
noncomputable section
def law12_CheckTurn (a0:(List aI)) (a1:(List aI)) (a2:bE):Option (Bool) :=
 aJ vB (fun x1=>[.box [vS a2.Group,vS a2.Rule]]) (law12_awake) fun x1=>
 aJ vB (fun x2=>[.box [vS a2.Group,vS a2.Rule]]) (fW a0) fun x2=>
 aA vB (!x2) fun x3=>
 aF x3 (
 aG x1) (
 aJ vB (fun x4=>[.box [vS a2.Group,vS a2.Rule]]) (fW a1) fun x4=>
 aA vB (!x4) fun x5=>
 aF x5 (
 aG x1) (
 aA vI ((a2.Group.length:Int)) fun x6=>
 aA vI ((a2.Rule.length:Int)) fun x7=>
 aA vI (wI (x6 + x7)) fun x8=>
 aA vB (decide ((1000:Int) < x8)) fun x9=>
 aF x9 (
 aG x1) (
 aJ (fun x10=>.tup [(sl a7) x10.1,(sl a7) x10.2.1,(sl a7) x10.2.2]) (fun x10=>[.box [vS a2.Group,vS a2.Rule]]) (eM a0 a1) fun x10=>
 aJ (fun x11=>.tup [(sl a7) x11.1,(sl a7) x11.2.1,(sl a7) x11.2.2]) (fun x11=>[.box [vS a2.Group,vS a2.Rule]]) (eM a1 a0) fun x11=>
 eN<|
 aF x1 (
 aJ vB (fun x12=>[.box [vS a2.Group,vS a2.Rule]]) (eF x10.2.1 x11.2.2) fun x12=>
 aF x12 (
 aJ vB (fun x13=>[.box [vS a2.Group,vS a2.Rule]]) (eF x10.2.2 x11.2.1) fun x13=>
 aA vI ((x10.1.length:Int)) fun x14=>
 aA vI ((x11.1.length:Int)) fun x15=>
 aA vB (decide (x14=x15)) fun x16=>
 aA vB (bif x13 then x16 else false) fun x17=>
 aA vI ((x10.1.length:Int)) fun x18=>
 aA vI ((x10.2.1.length:Int)) fun x19=>
 aA vI (wI (x18 + x19)) fun x20=>
 aF x17 (
 aJ (sl a7) (fun x21=>[.box [vS a2.Group,vS a2.Rule]]) (g5 a1) fun x21=>
 aA vI ((x21.length:Int)) fun x22=>
 aA vB (decide (x20=x22)) fun x23=>
 aA vI ((x10.1.length:Int)) fun x24=>
 aA vI ((x10.2.2.length:Int)) fun x25=>
 aA vI (wI (x24 + x25)) fun x26=>
 aF x23 (
 aJ (sl a7) (fun x27=>[.box [vS a2.Group,vS a2.Rule]]) (g5 a0) fun x27=>
 aA vI ((x27.length:Int)) fun x28=>
 aA vB (decide (x26=x28)) fun x29=>
 aF x29 (
 aJ vB (fun x30=>[.box [vS a2.Group,vS a2.Rule]]) (fS a0 a1 a2) fun x30=>
 aJ vB (fun x31=>[.box [vS a2.Group,vS a2.Rule]]) (fS a1 a0 a2) fun x31=>
 aA vB (x30 == x31) fun x32=>
 aG x32) (
 aG false)) (
 aG false)) (
 aA vI ((x10.1.length:Int)) fun x33=>
 aA vI ((x10.2.2.length:Int)) fun x34=>
 aA vI (wI (x33 + x34)) fun x35=>
 aG false)) (
 aA vI ((x10.1.length:Int)) fun x36=>
 aA vI ((x11.1.length:Int)) fun x37=>
 aA vB (decide (x36=x37)) fun x38=>
 aA vI ((x10.1.length:Int)) fun x39=>
 aA vI ((x10.2.1.length:Int)) fun x40=>
 aA vI (wI (x39 + x40)) fun x41=>
 aA vI ((x10.1.length:Int)) fun x42=>
 aA vI ((x10.2.2.length:Int)) fun x43=>
 aA vI (wI (x42 + x43)) fun x44=>
 aG false)) (
 aA vI ((x10.1.length:Int)) fun x45=>
 aA vI ((x11.1.length:Int)) fun x46=>
 aA vB (decide (x45=x46)) fun x47=>
 aA vI ((x10.1.length:Int)) fun x48=>
 aA vI ((x10.2.1.length:Int)) fun x49=>
 aA vI (wI (x48 + x49)) fun x50=>
 aA vI ((x10.1.length:Int)) fun x51=>
 aA vI ((x10.2.2.length:Int)) fun x52=>
 aA vI (wI (x51 + x52)) fun x53=>
 aG false))))
end
theorem CP {α:Type} (p:α→Bool):∀ l:List α,(l.filter p).length + (l.filter fun x=>!p x).length=l.length
 | []=>rfl
 | x :: l=>by
  have:=CP p l
  simp only [List.filter_cons]
  cases p x
  ·simp; omega
  ·simp; omega
theorem QI {α:Type} [DecidableEq α] {l m:List α} (h1:l.Nodup) (h2:m.Nodup) (h:∀ x,x ∈ l ↔ x ∈ m):l.length=m.length :=
 ((List.perm_ext_iff_of_nodup h1 h2).2 h).length_eq
theorem Sa (a b:List aI):((cE (bN b)).filter (bZ a b)).length=((cE (bN a)).filter (bZ b a)).length:=by
 refine QI ((sV b).sublist List.filter_sublist) ((sV a).sublist List.filter_sublist) fun k=>?_
 simp only [List.mem_filter]
 constructor
 ·rintro ⟨_,h⟩
  exact ⟨(J6 h).1,by rw [yE]; exact h⟩
 ·rintro ⟨_,h⟩
  exact ⟨(J6 h).1,by rw [yE]; exact h⟩
theorem law12_CheckTurn_pl (a b:List aI) (k:bE) (ha:BdF a) (hb:BdF b) (hk:BdK k):law12_CheckTurn a b k=some true:=by
 obtain ⟨k1,k2⟩:=hk
 have l1:=jX a
 have l2:=jX b
 have hc:∀ x,bZ b a x=bZ a b x:=fun x=>yE b a x
 have hfun:bZ b a=bZ a b:=funext hc
 have st:=Sa a b
 rw [hfun] at st
 have p1:=CP (bZ a b) (cE (bN b))
 have p2:=CP (bZ a b) (cE (bN a))
 unfold law12_CheckTurn
 rw [s9,aC]
 rcases tZ a ha with e | ⟨e,sa⟩
 ·rw [e]; rfl
 rcases tZ b hb with e2 | ⟨e2,sb⟩
 ·rw [e,e2]; rfl
 rw [e,aC,e2,aC]
 simp only [aV,bP,aZ,aO,bI,eC]
 rw [bC (by omega)]
 by_cases h:(1000:Int) < (k.Group.length:Int) + (k.Rule.length:Int)
 ·rw [if_pos h]
 rw [if_neg h]
 have e3:eM a b=some ((cE (bN b)).filter (bZ a b),(cE (bN b)).filter (fun k=>!bZ a b k),(cE (bN a)).filter fun k=>!bZ a b k):=j7 a b
 have e4:eM b a=some ((cE (bN a)).filter (bZ a b),(cE (bN a)).filter (fun k=>!bZ a b k),(cE (bN b)).filter fun k=>!bZ a b k):=by
  rw [j7 b a]; unfold iB; rw [hfun]
 rw [e3,aC,e4,aC]
 simp only
 generalize (cE (bN b)).filter (bZ a b)=S at *
 generalize (cE (bN b)).filter (fun k=>!bZ a b k)=C at *
 generalize (cE (bN a)).filter (bZ a b)=S2 at *
 generalize (cE (bN a)).filter (fun k=>!bZ a b k)=D at *
 rw [mD _ _ (by omega),aC,mD _ _ (by omega),aC,jC,aC,jC,aC,lL,aC,lL,aC]
 rw [hfun]
 rw [bC (x:=(S.length:Int) + (C.length:Int)) (by omega),bC (x:=(S.length:Int) + (D.length:Int)) (by omega)]
 simp only [decide_true,aZ,iA,Bool.true_and]
 rw [decide_eq_true (show (S.length:Int)=S2.length by omega),aZ]
 rw [if_pos (by omega),if_pos (by omega)]
 simp
section
open Go.Proofs
set_option maxRecDepth 20000
set_option maxHeartbeats 4000000
theorem law12_CheckTurn_run {a0:(List aI)}{a1:(List aI)}{a2:bE}{r:Bool} (hm:law12_CheckTurn a0 a1 a2=some r):Fun Tryz.prog 10 [(sl aD) a0,(sl aD) a1,(ag a7) a2] (vB r) []:=by
 have c1:=@n4
 have e1:=pJ
 have c2:=@law12_awake_run
 have e2:=mY
 have c3:=@nY
 have e3:=oS
 have c4:=@pD
 have e4:=qG
 have c5:=@kW
 have e5:=lN
 have c6:=@mX
 have e6:=n8
 refine Fun.of_model (X:=fun r=>vB r) (O:=fun r=>[]) Tryz.func10 rfl (Nat.le_of_ble_eq_true (by kernel_rfl)) hm ?_
 simp only [Tryz.ntmps10,Tryz.results10,bF]
 unfold law12_CheckTurn
 clear hm
 exact walk
end
theorem law12_CheckTurn_eq (a b:List aI) (k:bE) (ha:(okL jH) a) (hb:(okL jH) b) (hk:zW k):law12_CheckTurn a b k=some true:=law12_CheckTurn_pl a b k (uE ha) (uE hb) (Hv hk)
end Go.Proofs.YthgenmkengbmmaaGreatDoor.AM
