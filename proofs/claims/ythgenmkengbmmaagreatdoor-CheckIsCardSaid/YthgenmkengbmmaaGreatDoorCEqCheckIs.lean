/- EqCheckIs -/
import Derived.Test.YthgenmkengbmmaaGreatDoorCP3
import Derived.Test.YthgenmkengbmmaaGreatDoorCOk
import Derived.Test.YthgenmkengbmmaaGreatDoorCRl
set_option linter.all false
namespace Go.Proofs.YthgenmkengbmmaaGreatDoor.AM
open Go
noncomputable section
def law12_CheckIs (a0:(List aI)) (a1:(List aI)) (a2:bE):Option (Bool) :=
 aJ vB (fun x1=>[.box [vS a2.Group,vS a2.Rule]]) (law12_awake) fun x1=>
 aJ vB (fun x2=>[.box [vS a2.Group,vS a2.Rule]]) (fW a0) fun x2=>
 aA vB (!x2) fun x3=>
 aF x3 (
 aG x1) (
 aJ vB (fun x4=>[.box [vS a2.Group,vS a2.Rule]]) (fW a1) fun x4=>
 aA vB (!x4) fun x5=>
 aF x5 (
 aG x1) (
 aA vI ((a2.Group.length:Int)) fun x6=>
 aA vI ((a2.Rule.length:Int)) fun x7=>
 aA vI (wI (x6 + x7)) fun x8=>
 aA vB (decide ((1000:Int) < x8)) fun x9=>
 aF x9 (
 aG x1) (
 aJ (fun x10=>.tup [vI x10.1,vI x10.2.1,vB x10.2.2]) (fun x10=>[.box [vS a2.Group,vS a2.Rule]]) (jN a0 a2) fun x10=>
 aJ (fun x11=>.tup [vI x11.1,vI x11.2.1,vB x11.2.2]) (fun x11=>[.box [vS a2.Group,vS a2.Rule]]) (nI a0 a2) fun x11=>
 aJ (fun x12=>.tup [(sl a7) x12.1,(sl a7) x12.2.1,(sl a7) x12.2.2]) (fun x12=>[.box [vS a2.Group,vS a2.Rule]]) (eM a0 a1) fun x12=>
 aJ (fun x13=>.tup [(sl a7) x13.1,(sl a7) x13.2.1,(sl a7) x13.2.2]) (fun x13=>[.box [vS a2.Group,vS a2.Rule]]) (pC a0 a1) fun x13=>
 aJ vB (fun x14=>[.box [vS a2.Group,vS a2.Rule]]) (eF x12.1 x13.1) fun x14=>
 aA vB (!x14) fun x15=>
 aF x15 (
 aG false) (
 aJ vB (fun x16=>[.box [vS a2.Group,vS a2.Rule]]) (eF x12.2.1 x13.2.1) fun x16=>
 aA vB (!x16) fun x17=>
 aF x17 (
 aG false) (
 aJ vB (fun x18=>[.box [vS a2.Group,vS a2.Rule]]) (eF x12.2.2 x13.2.2) fun x18=>
 aA vB (!x18) fun x19=>
 aF x19 (
 aG false) (
 eN<|
 aF x1 (
 aJ (sl a7) (fun x20=>[.box [vS a2.Group,vS a2.Rule]]) (g5 a0) fun x20=>
 aJ (sl a7) (fun x21=>[.box [vS a2.Group,vS a2.Rule]]) (nC a0) fun x21=>
 aJ vB (fun x22=>[.box [vS a2.Group,vS a2.Rule]]) (eF x20 x21) fun x22=>
 aA vB (decide (x10.1=x11.1)) fun x23=>
 aA vB (bif x22 then x23 else false) fun x24=>
 aA vB (decide (x10.2.1=x11.2.1)) fun x25=>
 aA vB (bif x24 then x25 else false) fun x26=>
 aF x26 (
 aA vB (x10.2.2 == x11.2.2) fun x27=>
 aF x27 (
 aJ vB (fun x28=>[.box [vS a2.Group,vS a2.Rule]]) (fS a0 a1 a2) fun x28=>
 aJ vB (fun x29=>[.box [vS a2.Group,vS a2.Rule]]) (nN a0 a1 a2) fun x29=>
 aA vB (x28 == x29) fun x30=>
 aG x30) (
 aG false)) (
 aG false)) (
 aA vB (decide (x10.1=x11.1)) fun x31=>
 aA vB (decide (x10.2.1=x11.2.1)) fun x32=>
 aG false)))))))
end
theorem NX (a b:List aI):(iB a b).1.length≤256∧(iB a b).2.1.length≤256∧(iB a b).2.2.length≤256:=by
 have l1:=jX a
 have l2:=jX b
 have t1:=(List.filter_sublist (l:=cE (bN b)) (p:=bZ a b)).length_le
 have t2:=(List.filter_sublist (l:=cE (bN b)) (p:=fun k=>!bZ a b k)).length_le
 have t3:=(List.filter_sublist (l:=cE (bN a)) (p:=fun k=>!bZ a b k)).length_le
 unfold iB
 exact ⟨by simp only; omega,by simp only; omega,by simp only; omega⟩
theorem law12_CheckIs_pl (a b:List aI) (k:bE) (ha:BdF a) (hb:BdF b) (hk:BdK k):law12_CheckIs a b k=some true:=by
 obtain ⟨k1,k2⟩:=hk
 have l1:=jX a
 obtain ⟨t1,t2,t3⟩:=NX a b
 unfold law12_CheckIs
 rw [s9,aC]
 rcases tZ a ha with e | ⟨e,sa⟩
 ·rw [e]; rfl
 rcases tZ b hb with e2 | ⟨e2,sb⟩
 ·rw [e,e2]; rfl
 rw [e,aC,e2,aC]
 simp only [aV,bP,aZ,aO,bI,eC]
 rw [bC (by omega)]
 by_cases h:(1000:Int) < (k.Group.length:Int) + (k.Rule.length:Int)
 ·rw [if_pos h]
 rw [if_neg h,n9,aC,w7 a k sa,aC,j7,aC,H2 a b sa sb,aC]
 rw [mD _ _ (by omega),aC,mD _ _ (by omega),aC,mD _ _ (by omega),aC]
 simp only [decide_true,aZ]
 rw [jC,aC,xF a sa,aC,mD _ _ (by omega),aC,lL,aC,Dy a b k sa sb,aC]
 simp
section
open Go.Proofs
set_option maxRecDepth 20000
set_option maxHeartbeats 4000000
theorem Ie:aU Tryz.prog 115=true:=by kernel_rfl
theorem F7 {a0:Int}{r:Bool} (hm:oY a0=some r):Fun Tryz.prog 115 [(vK .u8) a0] (vB r) []:=by
 refine Fun.of_model (X:=fun r=>vB r) (O:=fun r=>[]) Tryz.func115 rfl (Nat.le_of_ble_eq_true (by kernel_rfl)) hm ?_
 simp only [Tryz.ntmps115,Tryz.results115,bF]
 unfold oY
 clear hm
 exact walk
theorem rH:aU Tryz.prog 94=true:=by kernel_rfl
theorem p4 {a0:Str}{r:Bool} (hm:jO a0=some r):Fun Tryz.prog 94 [vS a0] (vB r) []:=by
 have c1:=@F7
 have e1:=Ie
 refine Fun.of_model (X:=fun r=>vB r) (O:=fun r=>[]) Tryz.func94 rfl (Nat.le_of_ble_eq_true (by kernel_rfl)) hm ?_
 simp only [Tryz.ntmps94,Tryz.results94,bF]
 unfold jO
 clear hm
 exact walk
theorem DD:aU Tryz.prog 116=true:=by kernel_rfl
theorem BU {a0:cT}{r:Bool} (hm:qB a0=some r):Fun Tryz.prog 116 [(ag rI) a0] (vB r) []:=by
 have c1:=@p4
 have e1:=rH
 refine Fun.of_model (X:=fun r=>vB r) (O:=fun r=>[]) Tryz.func116 rfl (Nat.le_of_ble_eq_true (by kernel_rfl)) hm ?_
 simp only [Tryz.ntmps116,Tryz.results116,bF]
 unfold qB
 clear hm
 exact walk
theorem Dm:aU Tryz.prog 117=true:=by kernel_rfl
theorem B6 {a0:Int}{r:Bool} (hm:p6 a0=some r):Fun Tryz.prog 117 [vI a0] (vB r) []:=by
 refine Fun.of_model (X:=fun r=>vB r) (O:=fun r=>[]) Tryz.func117 rfl (Nat.le_of_ble_eq_true (by kernel_rfl)) hm ?_
 simp only [Tryz.ntmps117,Tryz.results117,bF]
 unfold p6
 clear hm
 exact walk
theorem DG:aU Tryz.prog 95=true:=by kernel_rfl
theorem Bs {a0:cG}{r:Bool} (hm:pP a0=some r):Fun Tryz.prog 95 [(ag wC) a0] (vB r) []:=by
 have c1:=@BU
 have e1:=DD
 have c2:=@B6
 have e2:=Dm
 refine Fun.of_model (X:=fun r=>vB r) (O:=fun r=>[]) Tryz.func95 rfl (Nat.le_of_ble_eq_true (by kernel_rfl)) hm ?_
 simp only [Tryz.ntmps95,Tryz.results95,bF]
 unfold pP
 clear hm
 exact walk
theorem xH:aU Tryz.prog 96=true:=by kernel_rfl
theorem uZ {a0:Int}{r:Bool} (hm:l9 a0=some r):Fun Tryz.prog 96 [vI a0] (vB r) []:=by
 refine Fun.of_model (X:=fun r=>vB r) (O:=fun r=>[]) Tryz.func96 rfl (Nat.le_of_ble_eq_true (by kernel_rfl)) hm ?_
 simp only [Tryz.ntmps96,Tryz.results96,bF]
 unfold l9
 clear hm
 exact walk
theorem Kk:aU Tryz.prog 97=true:=by kernel_rfl
theorem It {a0:(List aY)}{r:Bool} (hm:tP a0=some r):Fun Tryz.prog 97 [(sl aK) a0] (vB r) []:=by
 have c1:=@p4
 have e1:=rH
 refine Fun.of_model (X:=fun r=>vB r) (O:=fun r=>[]) Tryz.func97 rfl (Nat.le_of_ble_eq_true (by kernel_rfl)) hm ?_
 simp only [Tryz.ntmps97,Tryz.results97,bF]
 unfold tP
 clear hm
 exact walk
theorem Ff:aU Tryz.prog 118=true:=by kernel_rfl
theorem Ev {a0:Str}{r:Bool} (hm:mS a0=some r):Fun Tryz.prog 118 [vS a0] (vB r) []:=by
 refine Fun.of_model (X:=fun r=>vB r) (O:=fun r=>[]) Tryz.func118 rfl (Nat.le_of_ble_eq_true (by kernel_rfl)) hm ?_
 simp only [Tryz.ntmps118,Tryz.results118,bF]
 unfold mS
 clear hm
 exact walk
theorem Kx:aU Tryz.prog 98=true:=by kernel_rfl
theorem IB {a0:(List aY)}{r:Bool} (hm:tT a0=some r):Fun Tryz.prog 98 [(sl aK) a0] (vB r) []:=by
 have c1:=@Ev
 have e1:=Ff
 refine Fun.of_model (X:=fun r=>vB r) (O:=fun r=>[]) Tryz.func98 rfl (Nat.le_of_ble_eq_true (by kernel_rfl)) hm ?_
 simp only [Tryz.ntmps98,Tryz.results98,bF]
 unfold tT
 clear hm
 exact walk
theorem Dp:aU Tryz.prog 76=true:=by kernel_rfl
theorem B1 {a0:a6}{r:Bool} (hm:pT a0=some r):Fun Tryz.prog 76 [(ag bL) a0] (vB r) []:=by
 have c1:=@p4
 have e1:=rH
 have c2:=@Bs
 have e2:=DG
 have c3:=@uZ
 have e3:=xH
 have c4:=@It
 have e4:=Kk
 have c5:=@IB
 have e5:=Kx
 refine Fun.of_model (X:=fun r=>vB r) (O:=fun r=>[]) Tryz.func76 rfl (Nat.le_of_ble_eq_true (by kernel_rfl)) hm ?_
 simp only [Tryz.ntmps76,Tryz.results76,bF]
 unfold pT
 clear hm
 exact walk
theorem JA:aU Tryz.prog 114=true:=by kernel_rfl
theorem HF {a0:(List a6)}{a1:Str}{r:Bool} (hm:rA a0 a1=some r):Fun Tryz.prog 114 [(sl bL) a0,vS a1] (vB r) []:=by
 refine Fun.of_model (X:=fun r=>vB r) (O:=fun r=>[]) Tryz.func114 rfl (Nat.le_of_ble_eq_true (by kernel_rfl)) hm ?_
 simp only [Tryz.ntmps114,Tryz.results114,bF]
 unfold rA
 clear hm
 exact walk
theorem Iw:aU Tryz.prog 92=true:=by kernel_rfl
theorem Ik {a0:aI}{r:Bool} (hm:q9 a0=some r):Fun Tryz.prog 92 [(ag aD) a0] (vB r) []:=by
 have c1:=@HF
 have e1:=JA
 have c2:=@B1
 have e2:=Dp
 have c3:=@p4
 have e3:=rH
 have c4:=@uZ
 have e4:=xH
 refine Fun.of_model (X:=fun r=>vB r) (O:=fun r=>[]) Tryz.func92 rfl (Nat.le_of_ble_eq_true (by kernel_rfl)) hm ?_
 simp only [Tryz.ntmps92,Tryz.results92,bF]
 unfold q9
 clear hm
 exact walk
theorem MJ:aU Tryz.prog 93=true:=by kernel_rfl
theorem Kj {a0:(List aI)}{a1:Str}{r:Bool} (hm:wJ a0 a1=some r):Fun Tryz.prog 93 [(sl aD) a0,vS a1] (vB r) []:=by
 refine Fun.of_model (X:=fun r=>vB r) (O:=fun r=>[]) Tryz.func93 rfl (Nat.le_of_ble_eq_true (by kernel_rfl)) hm ?_
 simp only [Tryz.ntmps93,Tryz.results93,bF]
 unfold wJ
 clear hm
 exact walk
theorem Kl:aU Tryz.prog 75=true:=by kernel_rfl
theorem Jy {a0:(List aI)}{r:Bool} (hm:s4 a0=some r):Fun Tryz.prog 75 [(sl aD) a0] (vB r) []:=by
 have c1:=@Ik
 have e1:=Iw
 have c2:=@Kj
 have e2:=MJ
 refine Fun.of_model (X:=fun r=>vB r) (O:=fun r=>[]) Tryz.func75 rfl (Nat.le_of_ble_eq_true (by kernel_rfl)) hm ?_
 simp only [Tryz.ntmps75,Tryz.results75,bF]
 unfold s4
 clear hm
 exact walk
theorem FH:aU Tryz.prog 49=true:=by kernel_rfl
theorem En {a0:(List aI)}{r:(List aI)} (hm:uS a0=some r):Fun Tryz.prog 49 [(sl aD) a0] ((sl aD) r) []:=by
 have c1:=@Jy
 have e1:=Kl
 refine Fun.of_model (X:=fun r=>(sl aD) r) (O:=fun r=>[]) Tryz.func49 rfl (Nat.le_of_ble_eq_true (by kernel_rfl)) hm ?_
 simp only [Tryz.ntmps49,Tryz.results49,bF]
 unfold uS
 clear hm
 exact walk
theorem Dv:aU Tryz.prog 23=true:=by kernel_rfl
theorem B8 {a0:(List aI)}{a1:bE}{r:Int × Int × Bool} (hm:nI a0 a1=some r):Fun Tryz.prog 23 [(sl aD) a0,(ag a7) a1] (.tup [vI r.1,vI r.2.1,vB r.2.2]) []:=by
 have c1:=@En
 have e1:=FH
 refine Fun.of_model (X:=fun r=>.tup [vI r.1,vI r.2.1,vB r.2.2]) (O:=fun r=>[]) Tryz.func23 rfl (Nat.le_of_ble_eq_true (by kernel_rfl)) hm ?_
 simp only [Tryz.ntmps23,Tryz.results23,bF]
 unfold nI
 clear hm
 exact walk
theorem Du:aU Tryz.prog 28=true:=by kernel_rfl
theorem BT {a0:(List aI)}{r:(List bE)} (hm:nC a0=some r):Fun Tryz.prog 28 [(sl aD) a0] ((sl a7) r) []:=by
 have c1:=@En
 have e1:=FH
 refine Fun.of_model (X:=fun r=>(sl a7) r) (O:=fun r=>[]) Tryz.func28 rfl (Nat.le_of_ble_eq_true (by kernel_rfl)) hm ?_
 simp only [Tryz.ntmps28,Tryz.results28,bF]
 unfold nC
 clear hm
 exact walk
theorem BO:aU Tryz.prog 79=true:=by kernel_rfl
theorem AK {a0:Str}{r:Str} (hm:iL a0=some r):Fun Tryz.prog 79 [vS a0] (vS r) []:=by
 refine Fun.of_model (X:=fun r=>vS r) (O:=fun r=>[]) Tryz.func79 rfl (Nat.le_of_ble_eq_true (by kernel_rfl)) hm ?_
 simp only [Tryz.ntmps79,Tryz.results79,bF]
 unfold iL
 clear hm
 exact walk
theorem Jc:aU Tryz.prog 99=true:=by kernel_rfl
theorem Hg {a0:cT}{r:Str} (hm:qR a0=some r):Fun Tryz.prog 99 [(ag rI) a0] (vS r) []:=by
 have c1:=@BU
 have e1:=DD
 have c2:=@AK
 have e2:=BO
 refine Fun.of_model (X:=fun r=>vS r) (O:=fun r=>[]) Tryz.func99 rfl (Nat.le_of_ble_eq_true (by kernel_rfl)) hm ?_
 simp only [Tryz.ntmps99,Tryz.results99,bF]
 unfold qR
 clear hm
 exact walk
theorem IK:aU Tryz.prog 100=true:=by kernel_rfl
theorem GV {r:(List Str)} (hm:vO=some r):Fun Tryz.prog 100 [] ((sl cS) r) []:=by
 refine Fun.of_model (X:=fun r=>(sl cS) r) (O:=fun r=>[]) Tryz.func100 rfl (Nat.le_of_ble_eq_true (by kernel_rfl)) hm ?_
 simp only [Tryz.ntmps100,Tryz.results100,bF]
 unfold vO
 clear hm
 exact walk
theorem tM:aU Tryz.prog 103=true:=by kernel_rfl
theorem D5:∀ (nrec:Nat) {a0:Int}{r:Str} (hm:jK nrec a0=some r),Fun Tryz.prog 103 [vI a0] (vS r) []:=by
 intro nrec
 induction nrec with
 | zero=>intro a0 r hm; unfold jK at hm; cases hm
 | succ nrec ih=>
  intro a0 r hm
  have c1:=@ih
  have e1:=tM
  refine Fun.of_model (X:=fun r=>vS r) (O:=fun r=>[]) Tryz.func103 rfl (Nat.le_of_ble_eq_true (by kernel_rfl)) hm ?_
  simp only [Tryz.ntmps103,Tryz.results103,bF]
  unfold jK
  clear hm
  exact walk
theorem yQ {a0:Int}{r:Str} (hm:ref01_Digits a0=some r):Fun Tryz.prog 103 [vI a0] (vS r) []:=by
 unfold ref01_Digits at hm
 exact D5 64 hm
theorem B4:aU Tryz.prog 101=true:=by kernel_rfl
theorem Fg:∀ (nrec:Nat) {a0:Int}{r:Str} (hm:gY nrec a0=some r),Fun Tryz.prog 101 [vI a0] (vS r) []:=by
 intro nrec
 induction nrec with
 | zero=>intro a0 r hm; unfold gY at hm; cases hm
 | succ nrec ih=>
  intro a0 r hm
  have c1:=@ih
  have e1:=B4
  have c2:=@yQ
  have e2:=tM
  have c3:=@B6
  have e3:=Dm
  refine Fun.of_model (X:=fun r=>vS r) (O:=fun r=>[]) Tryz.func101 rfl (Nat.le_of_ble_eq_true (by kernel_rfl)) hm ?_
  simp only [Tryz.ntmps101,Tryz.results101,bF]
  unfold gY
  clear hm
  exact walk
theorem H6 {a0:Int}{r:Str} (hm:ref01_Print a0=some r):Fun Tryz.prog 101 [vI a0] (vS r) []:=by
 unfold ref01_Print at hm
 exact Fg 64 hm
theorem Jq:aU Tryz.prog 77=true:=by kernel_rfl
theorem HV {a0:cG}{r:Str} (hm:qO a0=some r):Fun Tryz.prog 77 [(ag wC) a0] (vS r) []:=by
 have c1:=@GV
 have e1:=IK
 have c2:=@H6
 have e2:=B4
 have c3:=@Bs
 have e3:=DG
 have c4:=@Hg
 have e4:=Jc
 refine Fun.of_model (X:=fun r=>vS r) (O:=fun r=>[]) Tryz.func77 rfl (Nat.le_of_ble_eq_true (by kernel_rfl)) hm ?_
 simp only [Tryz.ntmps77,Tryz.results77,bF]
 unfold qO
 clear hm
 exact walk
theorem IL:aU Tryz.prog 102=true:=by kernel_rfl
theorem HL {r:(List iK)} (hm:vR=some r):Fun Tryz.prog 102 [] ((sl pF) r) []:=by
 refine Fun.of_model (X:=fun r=>(sl pF) r) (O:=fun r=>[]) Tryz.func102 rfl (Nat.le_of_ble_eq_true (by kernel_rfl)) hm ?_
 simp only [Tryz.ntmps102,Tryz.results102,bF]
 unfold vR
 clear hm
 exact walk
theorem Iq:aU Tryz.prog 78=true:=by kernel_rfl
theorem H5 {a0:Int}{r:Str} (hm:mF a0=some r):Fun Tryz.prog 78 [vI a0] (vS r) []:=by
 have c1:=@HL
 have e1:=IL
 have c2:=@yQ
 have e2:=tM
 have c3:=@uZ
 have e3:=xH
 refine Fun.of_model (X:=fun r=>vS r) (O:=fun r=>[]) Tryz.func78 rfl (Nat.le_of_ble_eq_true (by kernel_rfl)) hm ?_
 simp only [Tryz.ntmps78,Tryz.results78,bF]
 unfold mF
 clear hm
 exact walk
theorem Jd:aU Tryz.prog 52=true:=by kernel_rfl
theorem H9 {a0:a6}{r:Str} (hm:oD a0=some r):Fun Tryz.prog 52 [(ag bL) a0] (vS r) []:=by
 have c1:=@B1
 have e1:=Dp
 have c2:=@HV
 have e2:=Jq
 have c3:=@H5
 have e3:=Iq
 have c4:=@AK
 have e4:=BO
 refine Fun.of_model (X:=fun r=>vS r) (O:=fun r=>[]) Tryz.func52 rfl (Nat.le_of_ble_eq_true (by kernel_rfl)) hm ?_
 simp only [Tryz.ntmps52,Tryz.results52,bF]
 unfold oD
 clear hm
 exact walk
theorem Dl:aU Tryz.prog 30=true:=by kernel_rfl
theorem BE {a0:(List aI)}{a1:(List aI)}{a2:bE}{r:Bool} (hm:nN a0 a1 a2=some r):Fun Tryz.prog 30 [(sl aD) a0,(sl aD) a1,(ag a7) a2] (vB r) []:=by
 have c1:=@B8
 have e1:=Dv
 have c2:=@H9
 have e2:=Jd
 refine Fun.of_model (X:=fun r=>vB r) (O:=fun r=>[]) Tryz.func30 rfl (Nat.le_of_ble_eq_true (by kernel_rfl)) hm ?_
 simp only [Tryz.ntmps30,Tryz.results30,bF]
 unfold nN
 clear hm
 exact walk
theorem HJ:aU Tryz.prog 25=true:=by kernel_rfl
theorem F6 {a0:(List aI)}{a1:(List aI)}{r:(List bE) × (List bE) × (List bE)} (hm:pC a0 a1=some r):Fun Tryz.prog 25 [(sl aD) a0,(sl aD) a1] (.tup [(sl a7) r.1,(sl a7) r.2.1,(sl a7) r.2.2]) []:=by
 have c1:=@BT
 have e1:=Du
 have c2:=@BE
 have e2:=Dl
 refine Fun.of_model (X:=fun r=>.tup [(sl a7) r.1,(sl a7) r.2.1,(sl a7) r.2.2]) (O:=fun r=>[]) Tryz.func25 rfl (Nat.le_of_ble_eq_true (by kernel_rfl)) hm ?_
 simp only [Tryz.ntmps25,Tryz.results25,bF]
 unfold pC
 clear hm
 exact walk
theorem law12_CheckIs_run {a0:(List aI)}{a1:(List aI)}{a2:bE}{r:Bool} (hm:law12_CheckIs a0 a1 a2=some r):Fun Tryz.prog 8 [(sl aD) a0,(sl aD) a1,(ag a7) a2] (vB r) []:=by
 have c1:=@n4
 have e1:=pJ
 have c2:=@law12_awake_run
 have e2:=mY
 have c3:=@mV
 have e3:=n7
 have c4:=@B8
 have e4:=Dv
 have c5:=@nY
 have e5:=oS
 have c6:=@F6
 have e6:=HJ
 have c7:=@pD
 have e7:=qG
 have c8:=@kW
 have e8:=lN
 have c9:=@BT
 have e9:=Du
 have c10:=@mX
 have e10:=n8
 have c11:=@BE
 have e11:=Dl
 refine Fun.of_model (X:=fun r=>vB r) (O:=fun r=>[]) Tryz.func8 rfl (Nat.le_of_ble_eq_true (by kernel_rfl)) hm ?_
 simp only [Tryz.ntmps8,Tryz.results8,bF]
 unfold law12_CheckIs
 clear hm
 exact walk
end
theorem law12_CheckIs_eq (a b:List aI) (k:bE) (ha:(okL jH) a) (hb:(okL jH) b) (hk:zW k):law12_CheckIs a b k=some true:=law12_CheckIs_pl a b k (uE ha) (uE hb) (Hv hk)
end Go.Proofs.YthgenmkengbmmaaGreatDoor.AM
