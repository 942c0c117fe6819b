/- EqCheckNames -/
import Derived.Test.YthgenmkengbmmaaGreatDoorCP3
import Derived.Test.YthgenmkengbmmaaGreatDoorCOk
import Derived.Test.YthgenmkengbmmaaGreatDoorCRl
set_option linter.all false
namespace Go.Proofs.YthgenmkengbmmaaGreatDoor.AM
open Go
noncomputable section
def law12_CheckNames (a0:(List aI)) (a1:bE):Option (Bool) :=
 aJ vB (fun x1=>[.box [vS a1.Group,vS a1.Rule]]) (law12_awake) fun x1=>
 aJ vB (fun x2=>[.box [vS a1.Group,vS a1.Rule]]) (fW a0) fun x2=>
 aA vB (!x2) fun x3=>
 aF x3 (
 aG x1) (
 aA vI ((a1.Group.length:Int)) fun x4=>
 aA vI ((a1.Rule.length:Int)) fun x5=>
 aA vI (wI (x4 + x5)) fun x6=>
 aA vB (decide ((1000:Int) < x6)) fun x7=>
 aF x7 (
 aG x1) (
 aJ (sl a7) (fun x8=>[.box [vS a1.Group,vS a1.Rule]]) (g5 a0) fun x8=>
 vG (fun (x9:Int)=>[(0,sl aD a0),(3,.ptr 0 0),(5,vB x1),(6,sl a7 x8),(7,vI x9)]) (fun (x9:Int)=>[.box [vS a1.Group,vS a1.Rule]]) (fun (x9:Int)=>
 bQ (fun (x18:Int × Bool)=>[(0,sl aD a0),(3,.ptr 0 0),(5,vB x1),(6,sl a7 x8),(7,vI x9),(9,vB x18.2),(10,vI x18.1)]) (fun (x18:Int × Bool)=>[.box [vS a1.Group,vS a1.Rule]]) (fun (x18:Int × Bool)=>
 aA vI ((x8.length:Int)) fun x19=>
 aA vB (decide (x18.1 < x19)) fun x20=>
 aF x20 (
 aF x18.2 (
 bQ (fun (x21:Int)=>[(0,sl aD a0),(3,.ptr 0 0),(5,vB x1),(6,sl a7 x8),(7,vI x9),(9,vB true),(10,vI x18.1),(11,vI x21)]) (fun (x21:Int)=>[.box [vS a1.Group,vS a1.Rule]]) (fun (x21:Int)=>
 aA vB (decide (x21 < x18.1)) fun x22=>
 aF x22 (
 bM x8 x18.1 fun x23=>
 bM x8 x21 fun x24=>
 aA vB ((decide (x23.Group=x24.Group) && (decide (x23.Rule=x24.Rule) && true))) fun x25=>
 aF x25 (
 aQ<|
 aQ<|
 aG false) (
 aA vI (wI (x21 + (1:Int))) fun x26=>
 aW x26)) (
 aQ<|
 aA vI (wI (x18.1 + (1:Int))) fun x27=>
 aW (x27,true))) (0:Int)) (
 bM x8 x18.1 fun x28=>
 aA vB ((decide (x28.Group=a1.Group) && (decide (x28.Rule=a1.Rule) && true))) fun x29=>
 bQ (fun (x30:Int)=>[(0,sl aD a0),(3,.ptr 0 0),(5,vB x1),(6,sl a7 x8),(7,vI x9),(9,vB x29),(10,vI x18.1),(11,vI x30)]) (fun (x30:Int)=>[.box [vS a1.Group,vS a1.Rule]]) (fun (x30:Int)=>
 aA vB (decide (x30 < x18.1)) fun x31=>
 aF x31 (
 bM x8 x30 fun x32=>
 aA vB ((decide (x28.Group=x32.Group) && (decide (x28.Rule=x32.Rule) && true))) fun x33=>
 aF x33 (
 aQ<|
 aQ<|
 aG false) (
 aA vI (wI (x30 + (1:Int))) fun x34=>
 aW x34)) (
 aQ<|
 aA vI (wI (x18.1 + (1:Int))) fun x35=>
 aW (x35,x29))) (0:Int))) (
 aQ<|
 aJ (fun x36=>.tup [vI x36.1,vI x36.2.1,vB x36.2.2]) (fun x36=>[.box [vS a1.Group,vS a1.Rule]]) (jN a0 a1) fun x36=>
 aA vI ((x8.length:Int)) fun x37=>
 aA vB (decide (x37=x9)) fun x38=>
 aA vB (bif x1 then x38 else false) fun x39=>
 aF x39 (
 aA vB (x36.2.2 == x18.2) fun x40=>
 aG x40) (
 aG false))) ((0:Int),false))<|
 bQ (fun (x10:Int × Int)=>[(0,sl aD a0),(3,.ptr 0 0),(5,vB x1),(6,sl a7 x8),(7,vI x10.1),(8,vI x10.2)]) (fun (x10:Int × Int)=>[.box [vS a1.Group,vS a1.Rule]]) (fun (x10:Int × Int)=>
 aA vI ((a0.length:Int)) fun x11=>
 aA vB (decide (x10.2 < x11)) fun x12=>
 aF x12 (
 aJ vB (fun x13=>[.box [vS a1.Group,vS a1.Rule]]) (nB a0) fun x13=>
 aF x13 (
 bM a0 x10.2 fun x14=>
 aA vI ((x14.Rules.length:Int)) fun x15=>
 aA vI (wI (x10.1 + x15)) fun x16=>
 aA vI (wI (x10.2 + (1:Int))) fun x17=>
 aW (x16,x17)) (
 aQ<|
 aW x10.1)) (
 aQ<|
 aW x10.1)) ((0:Int),(0:Int))))
end
theorem Wl (x y:bE):(decide (x.Group=y.Group) && (decide (x.Rule=y.Rule) && true))=decide (x=y):=by
 obtain ⟨a,b⟩:=x
 obtain ⟨c,d⟩:=y
 simp only [bE.mk.injEq,Bool.and_true,Bool.decide_and]
theorem Qx {l:List bE} (h:l.Nodup) {i j:Nat} (hi:i < l.length) (hj:j < i):nth l i ≠ nth l j:=by
 intro e
 have h1:=bJ hi
 have h2:=bJ (show j < l.length by omega)
 rw [List.getElem?_eq_getElem hi] at h1
 rw [List.getElem?_eq_getElem (show j < l.length by omega)] at h2
 have:=(List.pairwise_iff_getElem.1 h) j i (by omega) hi hj
 exact this (by rw [Option.some.inj h1,Option.some.inj h2,e])
theorem law12_CheckNames_pl (f:List aI) (k:bE) (hf:BdF f) (hk:BdK k):law12_CheckNames f k=some true:=by
 obtain ⟨k1,k2⟩:=hk
 have l1:=jX f
 have hnd:=sV f
 unfold law12_CheckNames
 rw [s9,aC]
 rcases tZ f hf with e | ⟨e,sf⟩
 ·rw [e]; rfl
 rw [e,aC]
 simp only [aV,bP,aZ,aO,bI,ME]
 rw [bC (by omega)]
 by_cases h:(1000:Int) < (k.Group.length:Int) + (k.Rule.length:Int)
 ·rw [if_pos h]
 rw [if_neg h,jC,aC]
 have hsl:=sf.1
 have cnt:∀ (ph:Int × Int→List (Nat × AV)) (ob:Int × Int→List Obj) (ob1:Bool→List Obj),bQ ph ob (fun (x10:Int × Int)=>if x10.2 < (f.length:Int) then aJ vB ob1 (nB f) fun x13=>aF x13 (bM f x10.2 fun x14=>aW (wI (x10.1 + (x14.Rules.length:Int)),wI (x10.2 + (1:Int)))) (aQ (aW x10.1)) else aQ (aW x10.1)) ((0:Int),(0:Int))=(some (Sum.inl ((cE (bN f)).length:Int)):Option (Int ⊕ Bool)):=by
  intro ph ob ob1
  cases hb:lJ f
  ·rw [show bN f=[] from by unfold bN; rw [hb]; rfl]
   refine l7 ?_
   simp only [sR,aC,hb,bA]
   split <;> rfl
  ·have hc:bN f=f:=by unfold bN; rw [hb]; rfl
   have hg:=(oH hb).2.2
   rw [hc]
   refine (fC f.length (fun i acc=>acc=((cE (f.take i)).length:Int)) (fun _ _=>(Sum.inl ((cE f).length:Int):Int ⊕ Bool)) ?_ ?_ (by simp [cE])).trans rfl
   ·rintro i acc hi rfl
    right
    have hkt:=C8 f hg (oH hb).1 i
    have hrl:=(jY (hg _ (dV hi))).2.2.2.2.2.1
    rw [if_pos (by simp only; omega),sR,aC,hb,aZ,a8 (bJ hi),bC (by simp only; omega),bC (by simp only; omega)]
    refine ⟨_,rfl,?_,rfl⟩
    rw [eK hi,Cq,List.length_append]
    simp [nJ]
   ·rintro acc rfl
    rw [if_neg (by simp only; omega),List.take_length]; rfl
 rw [cnt]
 simp only [Option.bind_some,Sum.elim_inl,Wl]
 have hfo:=Tl f k
 have hms:=@wV f k
 generalize cE (bN f)=K at *
 have inner:∀ (ph:Int→List (Nat × AV)) (ob:Int→List Obj) (i:Nat) (z:Bool),i < K.length→bQ ph ob (fun (x21:Int)=>if x21 < (i:Int) then bM K (i:Int) fun x23=>bM K x21 fun x24=>aF (decide (x23=x24)) (aQ (aQ (some false))) (aW (wI (x21 + (1:Int)))) else aQ (aW (wI ((i:Int) + (1:Int)),z))) (0:Int)=(some (Sum.inl (((i + 1:Nat):Int),z)):Option ((Int × Bool) ⊕ Bool)):=by
  intro ph ob i z hi
  refine dA i (fun _=>(Sum.inl (((i + 1:Nat):Int),z):(Int × Bool) ⊕ Bool)) ?_ ?_
  ·intro j hj
   right
   rw [if_pos (by omega),a8 (bJ hi),a8 (bJ (show j < K.length by omega)),decide_eq_false (Qx hnd hi hj),bA,bC (by omega)]
   exact ⟨rfl,rfl⟩
  ·rw [if_neg (by omega),bC (by omega)]; rfl
 refine (tD K.length (fun i z=>z=(K.take i).any fun x=>decide (x=k)) (fun _ _=>true) ?_ ?_ (by simp))
 ·rintro i z hi rfl
  right
  rw [if_pos (by simp only; omega)]
  simp only
  have ta:(K.take (i + 1)).any (fun x=>decide (x=k))=((K.take i).any (fun x=>decide (x=k)) || decide (nth K i=k)):=by
   rw [eK hi,List.any_append]; simp
  cases hz:(K.take i).any fun x=>decide (x=k)
  ·rw [bA,a8 (bJ hi)]
   have:=fun ph ob=>inner ph ob i (decide (nth K i=k)) hi
   have hidx:∀ {β:Type} (m:bE→Option β),bM K (i:Int) m=m (nth K i):=fun m=>a8 (bJ hi) m
   simp only [hidx] at this
   exact ⟨decide (nth K i=k),this _ _,by rw [ta,hz,Bool.false_or],trivial⟩
  ·rw [aZ]
   exact ⟨true,inner _ _ i true hi,by rw [ta,hz,Bool.true_or],trivial⟩
 ·rintro z rfl
  rw [if_neg (by simp only; omega),n9,aC,List.take_length]
  simp only [decide_true,cond_true,aZ,iP]
  congr 2
  rw [hfo,beq_iff_eq,Bool.eq_iff_iff,hms,List.any_eq_true]
  constructor
  ·intro h; exact ⟨k,h,by simp⟩
  ·rintro ⟨x,hx,hxe⟩
   rw [decide_eq_true_eq] at hxe
   subst hxe; exact hx
section
open Go.Proofs
set_option maxRecDepth 20000
set_option maxHeartbeats 4000000
theorem law12_CheckNames_run {a0:(List aI)}{a1:bE}{r:Bool} (hm:law12_CheckNames a0 a1=some r):Fun Tryz.prog 11 [(sl aD) a0,(ag a7) a1] (vB r) []:=by
 have c1:=@n4
 have e1:=pJ
 have c2:=@w6
 have e2:=zD
 have c3:=@law12_awake_run
 have e3:=mY
 have c4:=@mV
 have e4:=n7
 have c5:=@kW
 have e5:=lN
 have q1:=Lt; have p1:=LB
 refine Fun.of_model (X:=fun r=>vB r) (O:=fun r=>[]) Tryz.func11 rfl (Nat.le_of_ble_eq_true (by kernel_rfl)) hm ?_
 simp only [Tryz.ntmps11,Tryz.results11,bF]
 unfold law12_CheckNames
 clear hm
 exact walk
end
theorem law12_CheckNames_eq (f:List aI) (k:bE) (h:(okL jH) f) (hk:zW k):law12_CheckNames f k=some true:=law12_CheckNames_pl f k (uE h) (Hv hk)
end Go.Proofs.YthgenmkengbmmaaGreatDoor.AM
