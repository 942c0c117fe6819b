/- P3 -/
import Derived.Test.YthgenmkengbmmaaGreatDoorCP2
set_option linter.all false
namespace Go.Proofs.YthgenmkengbmmaaGreatDoor.AM
open Go
def exA:Str:=[103,114,111,117,112,32,103,32,101,118,101,114,121,32,49,109,32,123,32,114,117,108,101,32,65,58,32,117,112,32,62,32,49,59,32,114,117,108,101,32,66,58,32,117,112,32,62,32,50,59,32,125]
def exB:Str:=[103,114,111,117,112,32,103,32,101,118,101,114,121,32,49,109,32,123,32,114,117,108,101,32,66,58,32,117,112,32,62,32,50,59,32,114,117,108,101,32,65,58,32,117,112,32,62,32,51,59,32,125]
def r1:a6:=⟨[65],⟨⟨[117,112],[]⟩,1,1000⟩,0,0,[]⟩
def r2:a6:=⟨[66],⟨⟨[117,112],[]⟩,1,2000⟩,0,0,[]⟩
def r3:a6:=⟨[65],⟨⟨[117,112],[]⟩,1,3000⟩,0,0,[]⟩
def gA:aI:=⟨[103],60000,0,[r1,r2]⟩
def gB:aI:=⟨[103],60000,0,[r2,r3]⟩
def kA:bE:=⟨[103],[65]⟩
def kB:bE:=⟨[103],[66]⟩
theorem Sl:M4 exA=([gA],(exA.length:Int),0):=by kernel_rfl
theorem Sy:M4 exB=([gB],(exB.length:Int),0):=by kernel_rfl
theorem Uu:lJ [gA]=true:=by kernel_rfl
theorem Tx:lJ [gB]=true:=by kernel_rfl
theorem z8:bN [gA]=[gA]:=by unfold bN; rw [Uu]; rfl
theorem Gz:bN [gB]=[gB]:=by unfold bN; rw [Tx]; rfl
theorem Lm (k:bE):dW [] k=none:=by
 have:bN []=[]:=rfl
 unfold dW; rw [this]; rfl
theorem mA1:dW [gA] kA=some (kP gA r1):=by
 unfold dW; rw [z8]
 show lkE [(kA,kP gA r1),(kB,kP gA r2)] kA=_
 rw [lB,if_pos rfl]
theorem mA2:dW [gA] kB=some (kP gA r2):=by
 unfold dW; rw [z8]
 show lkE [(kA,kP gA r1),(kB,kP gA r2)] kB=_
 rw [lB,if_neg (by decide),lB,if_pos rfl]
theorem mB1:dW [gB] kA=some (kP gB r3):=by
 unfold dW; rw [Gz]
 show lkE [(kB,kP gB r2),(kA,kP gB r3)] kA=_
 rw [lB,if_neg (by decide),lB,if_pos rfl]
theorem mB2:dW [gB] kB=some (kP gB r2):=by
 unfold dW; rw [Gz]
 show lkE [(kB,kP gB r2),(kA,kP gB r3)] kB=_
 rw [lB,if_pos rfl]
theorem sA:bZ [gA] [gB] kA=false:=by
 unfold bZ
 rw [mA1,mB1]
 simp only [j9,decide_eq_false_iff_not]
 intro e
 have h:=Pt (a:=r3) (b:=r1) (by kernel_rfl)
 rw [show decide (j4 r1=j4 r3)=true from decide_eq_true (congrArg bK.text e)] at h
 exact absurd h (by decide)
theorem sB:bZ [gA] [gB] kB=true:=by
 unfold bZ
 rw [mA2,mB2]
 exact decide_eq_true rfl
theorem s9:law12_awake=some true:=by
 unfold law12_awake
 rw [show kT ([103,114,111,117,112,32,103,32,101,118,101,114,121,32,49,109,32,123,32,114,117,108,101,32,65,58,32,117,112,32,62,32,49,59,32,114,117,108,101,32,66,58,32,117,112,32,62,32,50,59,32,125]:Str)=some ([gA],(exA.length:Int),0) from (Di exA (by decide)).trans (by rw [Sl]),
  show kT ([103,114,111,117,112,32,103,32,101,118,101,114,121,32,49,109,32,123,32,114,117,108,101,32,66,58,32,117,112,32,62,32,50,59,32,114,117,108,101,32,65,58,32,117,112,32,62,32,51,59,32,125]:Str)=some ([gB],(exB.length:Int),0) from (Di exB (by decide)).trans (by rw [Sy])]
 simp only [aC,aV,j7,n9,jC,lL,z8]
 have hk:cE [gA]=[kA,kB]:=rfl
 have hk2:cE [gB]=[kB,kA]:=rfl
 have e1:iB [] [gA]=([],[kA,kB],[]):=by
  unfold iB
  rw [z8,hk]
  have hz:∀ k,bZ [] [gA] k=false:=fun k=>by unfold bZ; rw [Lm]; rfl
  simp only [List.filter_cons,hz,Bool.not_false,if_true,Bool.false_eq_true,if_false,List.filter_nil]
  rfl
 have e2:iB [gA] [gB]=([kB],[kA],[kA]):=by
  unfold iB
  rw [z8,Gz,hk,hk2]
  simp only [List.filter_cons,sA,sB,Bool.not_false,Bool.not_true,if_true,Bool.false_eq_true,if_false,List.filter_nil]
 have e3:kO (⟨[103],[66]⟩:bE) [gA] 0=some (0,1):=by kernel_rfl
 rw [e1,e2,e3,hk]
 have e4:bZ [gA] [gB] (⟨[103],[66]⟩:bE)=true:=sB
 rw [e4]
 rfl
theorem tZ (f:List aI) (h:BdF f):fW f=some false ∨ (fW f=some true∧zL f):=by
 obtain ⟨b,h1,h2⟩:=XC f h
 cases b
 ·exact .inl h1
 ·exact .inr ⟨h1,h2 rfl⟩
theorem Tl (f:List aI) (k:bE):(F1 (kO k (bN f) 0)).2.2=(dW f k).isSome:=by
 have h:=AB f k
 cases hf:kO k (bN f) 0 with
 | none=>rw [hf] at h; rw [show dW f k=none from h]; rfl
 | some z=>
  obtain ⟨i,j⟩:=z
  rw [hf] at h
  rw [h.2.2.2.2.2]; rfl
def BdK (k:bE):Prop:=k.Group.length≤140737488351232∧k.Rule.length≤140737488351232
theorem HZ (x:Option bK):j9 x x=x.isSome:=by
 cases x with
 | none=>rfl
 | some a=>simp [j9]
end Go.Proofs.YthgenmkengbmmaaGreatDoor.AM
