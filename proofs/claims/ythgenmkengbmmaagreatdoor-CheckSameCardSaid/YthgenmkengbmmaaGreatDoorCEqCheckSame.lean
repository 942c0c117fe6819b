/- EqCheckSame -/
import Derived.Test.YthgenmkengbmmaaGreatDoorCP3
import Derived.Test.YthgenmkengbmmaaGreatDoorCOk
import Derived.Test.YthgenmkengbmmaaGreatDoorCRl
set_option linter.all false
namespace Go.Proofs.YthgenmkengbmmaaGreatDoor.AM
open Go
noncomputable section
def law12_CheckSame (a0:(List aI)):Option (Bool) :=
 aJ vB (fun x1=>[]) (law12_awake) fun x1=>
 aJ vB (fun x2=>[]) (fW a0) fun x2=>
 aA vB (!x2) fun x3=>
 aF x3 (
 aG x1) (
 aJ vB (fun x4=>[]) (nB a0) fun x4=>
 aA vB (!x4) fun x5=>
 aF x5 (
 aG x1) (
 aJ (sl a7) (fun x6=>[]) (g5 a0) fun x6=>
 bQ (fun (x7:Int)=>[(0,sl aD a0),(3,vB x1),(4,sl a7 x6),(5,vI x7)]) (fun (x7:Int)=>[]) (fun (x7:Int)=>
 aA vI ((x6.length:Int)) fun x8=>
 aA vB (decide (x7 < x8)) fun x9=>
 aF x9 (
 bM x6 x7 fun x10=>
 aJ (fun x11=>.tup [vI x11.1,vI x11.2.1,vB x11.2.2]) (fun x11=>[]) (jN a0 x10) fun x11=>
 Su<|
 aA vB (!x11.2.2) fun x12=>
 aA vB (decide (x11.1 < (0:Int))) fun x13=>
 aA vB (bif x12 then true else x13) fun x14=>
 aA vI ((a0.length:Int)) fun x15=>
 aA vB (decide (x15≤x11.1)) fun x16=>
 aA vB (bif x14 then true else x16) fun x17=>
 aA vB (decide (x11.2.1 < (0:Int))) fun x18=>
 aA vB (bif x17 then true else x18) fun x19=>
 aF x19 (
 aQ<|
 aG false) (
 bM a0 x11.1 fun x20=>
 aA vI ((x20.Rules.length:Int)) fun x21=>
 aA vB (decide (x21≤x11.2.1)) fun x22=>
 aF x22 (
 aQ<|
 aG false) (
 aA vB (!decide (x20.Name=x10.Group)) fun x23=>
 aF x23 (
 aQ<|
 aG false) (
 bM x20.Rules x11.2.1 fun x24=>
 aA vB (!decide (x24.Name=x10.Rule)) fun x25=>
 aF x25 (
 aQ<|
 aG false) (
 aJ vB (fun x26=>[]) (fS a0 a0 x10) fun x26=>
 aA vB (!x26) fun x27=>
 aF x27 (
 aQ<|
 aG false) (
 aA vI (wI (x7 + (1:Int))) fun x28=>
 aW x28)))))) (
 aQ<|
 aJ (fun x29=>.tup [(sl a7) x29.1,(sl a7) x29.2.1,(sl a7) x29.2.2]) (fun x29=>[]) (eM a0 a0) fun x29=>
 aJ (fun x30=>.tup [(sl a7) x30.1,(sl a7) x30.2.1,(sl a7) x30.2.2]) (fun x30=>[]) (eM a0 ([]:(List aI))) fun x30=>
 aF x1 (
 aJ vB (fun x31=>[]) (eF x29.1 x6) fun x31=>
 aA vI ((x29.2.1.length:Int)) fun x32=>
 aA vB (decide (x32=(0:Int))) fun x33=>
 aA vB (bif x31 then x33 else false) fun x34=>
 aA vI ((x29.2.2.length:Int)) fun x35=>
 aA vB (decide (x35=(0:Int))) fun x36=>
 aA vB (bif x34 then x36 else false) fun x37=>
 aA vI ((x30.1.length:Int)) fun x38=>
 aA vB (decide (x38=(0:Int))) fun x39=>
 aA vB (bif x37 then x39 else false) fun x40=>
 aA vI ((x30.2.1.length:Int)) fun x41=>
 aA vB (decide (x41=(0:Int))) fun x42=>
 aA vB (bif x40 then x42 else false) fun x43=>
 aF x43 (
 aJ vB (fun x44=>[]) (eF x30.2.2 x6) fun x44=>
 aG x44) (
 aG false)) (
 aA vI ((x29.2.1.length:Int)) fun x45=>
 aA vB (decide (x45=(0:Int))) fun x46=>
 aA vI ((x29.2.2.length:Int)) fun x47=>
 aA vB (decide (x47=(0:Int))) fun x48=>
 aA vI ((x30.1.length:Int)) fun x49=>
 aA vB (decide (x49=(0:Int))) fun x50=>
 aA vI ((x30.2.1.length:Int)) fun x51=>
 aA vB (decide (x51=(0:Int))) fun x52=>
 aG false))) (0:Int)))
end
theorem law12_CheckSame_pl (f:List aI) (hf:BdF f):law12_CheckSame f=some true:=by
 have l1:=jX f
 unfold law12_CheckSame
 rw [s9,aC]
 rcases tZ f hf with e | ⟨e,sf⟩
 ·rw [e]; rfl
 rw [e,aC,sR,aC]
 cases hb:lJ f
 ·rfl
 have hc:bN f=f:=by unfold bN; rw [hb]; rfl
 have hfl:=(oH hb).1
 simp only [aV,bP,aZ,aO,bI]
 rw [jC,aC]
 have hsame:∀ k ∈ cE (bN f),bZ f f k=true:=fun k hk=>by
  unfold bZ; rw [HZ,wV]; exact hk
 have e1:iB f f=(cE (bN f),[],[]):=by
  unfold iB
  rw [List.filter_eq_self.2 hsame,List.filter_eq_nil_iff.2 (fun k hk=>by simp [hsame k hk])]
 have e2:iB f []=([],[],cE (bN f)):=by
  have hz:∀ k,bZ f [] k=false:=fun k=>by rw [yE]; unfold bZ; rw [Lm]; rfl
  have e3:(cE (bN f)).filter (fun k=>!bZ f [] k)=cE (bN f):=List.filter_eq_self.2 (fun k _=>by simp [hz k])
  unfold iB
  rw [show bN []=[] from rfl,e3]
  rfl
 refine (dA (cE (bN f)).length (fun _=>true) ?_ ?_)
 ·intro i hi
  right
  have hm:=dV hi
  rw [if_pos (by omega),a8 (bJ hi)]
  generalize nth (cE (bN f)) i=k at *
  have h:=AB f k
  have hs:=hsame k hm
  rw [n9]
  have hsome:=wV.2 hm
  cases hq:kO k (bN f) 0 with
  | none=>rw [hq] at h; rw [show dW f k=none from h] at hsome; cases hsome
  | some z=>
   obtain ⟨p,j⟩:=z
   rw [hq] at h
   obtain ⟨_,_,c3,c4,c5,_⟩:=h
   rw [show F1 (some (p,j))=((p:Int),(j:Int),true) from rfl,aC]
   simp only [Su,n5,Bool.not_true,Bool.false_or]
   rw [decide_eq_false (show ¬ (p:Int) < 0 by omega),decide_eq_false (show ¬ (f.length:Int)≤p by omega),decide_eq_false (show ¬ (j:Int) < 0 by omega)]
   simp only [Bool.or_self,bA]
   rw [a8 (bJ c3),if_neg (by omega)]
   have n1:(nth f p).Name=k.Group:=by rw [c5]
   have n2:(nth (nth f p).Rules j).Name=k.Rule:=by rw [c5]
   rw [if_pos n1,a8 (bJ c4),if_pos n2,lL,aC,hs,aZ,bC (by omega)]
   exact ⟨rfl,trivial⟩
 ·rw [if_neg (by omega),j7,aC,j7,aC,e1,e2]
  simp only [aZ]
  rw [mD _ _ (by omega),aC]
  simp [iA]
section
open Go.Proofs
set_option maxRecDepth 20000
set_option maxHeartbeats 4000000
theorem law12_CheckSame_run {a0:(List aI)}{r:Bool} (hm:law12_CheckSame a0=some r):Fun Tryz.prog 9 [(sl aD) a0] (vB r) []:=by
 have c1:=@n4
 have e1:=pJ
 have c2:=@w6
 have e2:=zD
 have c3:=@law12_awake_run
 have e3:=mY
 have c4:=@mV
 have e4:=n7
 have c5:=@nY
 have e5:=oS
 have c6:=@pD
 have e6:=qG
 have c7:=@kW
 have e7:=lN
 have c8:=@mX
 have e8:=n8
 refine Fun.of_model (X:=fun r=>vB r) (O:=fun r=>[]) Tryz.func9 rfl (Nat.le_of_ble_eq_true (by kernel_rfl)) hm ?_
 simp only [Tryz.ntmps9,Tryz.results9,bF]
 unfold law12_CheckSame
 clear hm
 exact walk
end
theorem law12_CheckSame_eq (f:List aI) (h:(okL jH) f):law12_CheckSame f=some true:=law12_CheckSame_pl f (uE h)
end Go.Proofs.YthgenmkengbmmaaGreatDoor.AM
