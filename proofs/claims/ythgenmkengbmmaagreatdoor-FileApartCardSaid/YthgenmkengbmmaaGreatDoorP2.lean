/- P2 -/
import Derived.Test.YthgenmkengbmmaaGreatDoorP1
set_option linter.all false
namespace Go.Proofs.YthgenmkengbmmaaGreatDoor.AM
open Go
theorem a7 {α β:Type} (ks:List Nat) (w:List Obj) (enc:α→AV) (ob:α→List Obj) (a:α) (m:α→Option β):bJ ks w enc ob (some a) m=m a:=rfl
theorem qJ {β:Type} (h e:List Nat) (r:List (Bool × Nat)) (m:Option β):r7 h e r m=m:=rfl
theorem GV {β:Type} (a b c d:Nat) (m:Option β):tokB a b c d m=m:=rfl
theorem Q5 {β:Type} (a:Nat) (m:Option β):Ja a m=m:=rfl
def tks (l:List aL) (i:Nat):List Kt:=(l.drop i).map kv
def iA (l:List aL) (t:List Kt):Int:=(l.length:Int) - t.length
theorem lF {l:List aL}{i:Nat} (h:i < l.length):tks l i=kv (nth l i) :: tks l (i + 1):=by
 unfold tks; rw [dY h]; rfl
theorem gK {l:List aL}{i:Nat} (h:l.length≤i):tks l i=[]:=by
 unfold tks; rw [List.drop_eq_nil_of_le h]; rfl
theorem DP (l:List aL) (i:Nat):(tks l i).length=l.length - i:=by simp [tks]
theorem dK (l:List aL) (i:Nat):(tks l i).tail=tks l (i + 1):=by
 rcases Nat.lt_or_ge i l.length with h | h
 ·rw [lF h]; rfl
 ·rw [gK h,gK (by omega)]; rfl
theorem bN {l:List aL}{i:Nat} (h:i≤l.length):iA l (tks l i)=i:=by
 unfold iA; rw [DP]; omega
theorem MK {l:List aL}{i:Nat} (hi:i≤l.length) {p u:List Kt} (h:tks l i=p ++ u):∃ j,i + p.length=j∧j≤l.length∧u=tks l j:=by
 have h1:=congrArg List.length h
 rw [DP,List.length_append] at h1
 refine ⟨_,rfl,by omega,?_⟩
 have h2:=congrArg (List.drop p.length) h
 rw [List.drop_left] at h2
 rw [← h2]
 unfold tks
 rw [List.map_drop,List.map_drop,List.drop_drop]
theorem bC.toks {α:Type}{l:List aL}{i m:Nat}{r:Pr α}{Q:α→Prop} (h:bC (tks l i) r Q m) (hi:i≤l.length) :
  (∃ e j,r=.er (tks l j) e∧i≤j∧j≤l.length∧e ≠ 0∧(e=3 ↔ j=l.length)) ∨ (∃ a j,r=.ok a (tks l j)∧i + m≤j∧j≤l.length∧Q a):=by
 rcases h.split with ⟨u,e,p,hr,hp,h3,h0⟩ | ⟨a,u,p,hr,hp,hm,hq⟩
 ·obtain ⟨j,h1,h2,rfl⟩:=MK hi hp
  refine .inl ⟨e,j,hr,by omega,h2,h0,?_⟩
  rw [h3,← List.length_eq_zero_iff,DP]; omega
 ·obtain ⟨j,h1,h2,rfl⟩:=MK hi hp
  exact .inr ⟨a,j,hr,by omega,h2,hq⟩
def Pr.val {α:Type} (z:α):Pr α→α
 | .er _ _=>z
 | .ok a _=>a
def Pr.err {α:Type}:Pr α→Int
 | .er _ e=>e
 | .ok _ _=>0
def Pr.rem {α:Type}:Pr α→List Kt
 | .er u _=>u
 | .ok _ u=>u
def vT {α:Type} (l:List aL) (z:α) (r:Pr α):α × Int × Int:=(r.val z,iA l r.rem,r.err)
def vSr {α:Type} (l:List aL) (z:α) (r:Pr α):α × Int × b9:=(r.val z,r.err,⟨l,iA l r.rem⟩)
theorem sY {α:Type}{l:List aL}{z:α}{j:Nat}{e:Int} (h:j≤l.length):vT l z (.er (tks l j) e)=(z,(j:Int),e):=by
 simp only [vT,Pr.val,Pr.rem,Pr.err,bN h]
theorem GH {α:Type}{l:List aL}{z a:α}{j:Nat} (h:j≤l.length):vT l z (.ok a (tks l j))=(a,(j:Int),0):=by
 simp only [vT,Pr.val,Pr.rem,Pr.err,bN h]
theorem rP {α:Type}{l:List aL}{z:α}{j:Nat}{e:Int} (h:j≤l.length):vSr l z (.er (tks l j) e)=(z,e,⟨l,(j:Int)⟩):=by
 simp only [vSr,Pr.val,Pr.rem,Pr.err,bN h]
theorem vC {α:Type}{l:List aL}{z a:α}{j:Nat} (h:j≤l.length):vSr l z (.ok a (tks l j))=(a,0,⟨l,(j:Int)⟩):=by
 simp only [vSr,Pr.val,Pr.rem,Pr.err,bN h]
theorem WL {α:Type}{l:List aL}{z:α}{j:Nat} (h:j≤l.length):vT l z (wr (tks l j))=(z,(j:Int),wrE (tks l j)):=sY h
theorem FR {α:Type}{l:List aL}{z:α}{j:Nat} (h:j≤l.length):vSr l z (wr (tks l j))=(z,wrE (tks l j),⟨l,(j:Int)⟩):=rP h
def isK (k:Int):List Kt→Bool
 | []=>false
 | x :: _=>decide (x.1=k)
def SmT (l:List aL):Prop:=l.length≤100000000∧∀ x ∈ l,x.S.length≤100000000
theorem DD {l:List aL}{i:Nat} (h:i < l.length) (k:Int) (s:Str):isT k s (tks l i)=(decide ((nth l i).K=k) && decide ((nth l i).S=s)):=by
 rw [lF h]; rfl
theorem rH {l:List aL}{i:Nat} (h:i < l.length) (k:Int):isK k (tks l i)=decide ((nth l i).K=k):=by
 rw [lF h]; rfl
theorem eM {l:List aL}{i:Nat}{k:Int}{s:Str} (h:isT k s (tks l i)=true):i < l.length:=by
 rcases Nat.lt_or_ge i l.length with h1 | h1
 ·exact h1
 ·rw [gK h1] at h; cases h
theorem kA {l:List aL}{i:Nat}{k:Int} (h:isK k (tks l i)=true):i < l.length:=by
 rcases Nat.lt_or_ge i l.length with h1 | h1
 ·exact h1
 ·rw [gK h1] at h; cases h
theorem HL {t:List Kt} (h:isK 1 t=false):jS t=wr t:=by
 rcases t with _ | ⟨x,r⟩
 ·rfl
 ·simp only [isK,decide_eq_false_iff_not] at h
  simp only [jS,if_neg h]; try rfl
theorem E5 {l:List aL}{i:Nat} (h:isK 1 (tks l i)=true):jS (tks l i)=if cP (nth l i).S then .ok (nth l i).S (tks l (i + 1)) else .er (tks l i) 7:=by
 have hl:=kA h
 rw [lF hl] at h ⊢
 simp only [isK,decide_eq_true_eq] at h
 simp only [jS,if_pos h]; try rfl
theorem UW {n:Nat}{nm:Str}{nt:Bool}{t:List Kt} (h:isK 3 t=false):rW n nm nt t=wr t:=by
 rcases t with _ | ⟨x,r⟩
 ·rfl
 ·simp only [isK,decide_eq_false_iff_not] at h
  simp only [rW,if_neg h]; try rfl
theorem Tc {n:Nat}{nm:Str}{nt:Bool}{l:List aL}{i:Nat} (h:isK 3 (tks l i)=true):rW n nm nt (tks l i)=if 64 < (nth l i).S.length ∨ 8≤n then .er (tks l i) 4 else .ok ⟨nm,(nth l i).S,nt⟩ (tks l (i + 1)):=by
 have hl:=kA h
 rw [lF hl] at h ⊢
 simp only [isK,decide_eq_true_eq] at h
 simp only [rW,if_pos h]; try rfl
theorem Cz (l:List aL) (i:Nat) (k:Int):fJ k ⟨l,(i:Int)⟩=some (isK k (tks l i)):=by
 unfold fJ
 simp only [aZ,aV,bL]
 by_cases h:i < l.length
 ·rw [if_pos (by omega),bB (bO h),rH h]
 ·rw [if_neg (by omega),gK (by omega)]; rfl
theorem r9 (l:List aL) (i:Nat):dU ⟨l,(i:Int)⟩=some (wrE (tks l i)):=by
 unfold dU
 simp only [aZ,aV,bL]
 by_cases h:i < l.length
 ·rw [if_neg (by omega),lF h]; rfl
 ·rw [if_pos (by omega),gK (by omega)]; rfl
theorem nI (l:List aL) (i:Nat) (s:Str) (hl:l.length≤100000000):d5 s ⟨l,(i:Int)⟩=some (isT 4 s (tks l i),⟨l,if isT 4 s (tks l i) then ((i + 1:Nat):Int) else (i:Int)⟩):=by
 unfold d5
 rw [i7,Cz,a7]
 simp only [aZ,bK,aV,bL]
 cases h:isK 4 (tks l i)
 ·have:isT 4 s (tks l i)=false:=by
   rcases hl:tks l i with _ | ⟨x,r⟩
   ·rfl
   ·rw [hl] at h
    simp only [isK] at h
    simp only [isT,h,Bool.false_and]
  rw [this]; rfl
 ·have hlt:=kA h
  rw [rH hlt] at h
  rw [aY,bB (bO hlt),DD hlt,h,Bool.true_and,bF (by omega)]
  by_cases h2:(nth l i).S=s
  ·simp [h2]
  ·simp [h2]
theorem EH (l:List aL) (i:Nat) (hi:i≤l.length) (hl:l.length≤100000000):iT ⟨l,(i:Int)⟩=some (vSr l [] (jS (tks l i))):=by
 unfold iT
 rw [Cz,a7]
 simp only [aZ,bK,bL]
 cases h:isK 1 (tks l i)
 ·rw [a6,r9,a7,HL h,FR hi]
 ·have hlt:=kA h
  rw [aY,bB (bO hlt),iU,aD,E5 h]
  cases cP (nth l i).S
  ·simp only [a6,Bool.false_eq_true,if_false,rP hi]
  ·simp only [aY,if_true]
   rw [vC (by omega),bF (by omega)]; rfl
theorem Jq (l:List aL) (i n:Nat) (hi:i≤l.length) (hl:l.length≤100000000) (hn:n≤100000000):jL (n:Int) ⟨l,(i:Int)⟩=some (vSr l ⟨[],[],false⟩ (mB n (tks l i))):=by
  unfold jL
  rw [EH l i hi hl,a7]
  unfold mB
  have tail:∀ (j:Nat) (nm:Str) (nt:Bool),j≤l.length→(bJ [0] [.box [sl aB l,vI (j:Int)],.box [vS ([]:Str),vS ([]:Str),vB false]] (fun x8=>vB x8) (fun x8=>[.box [sl aB l,vI (j:Int)],.box [vS ([]:Str),vS ([]:Str),vB false]]) (fJ (3:Int) ⟨l,(j:Int)⟩) fun x8=>
      aG x8 (bS l (j:Int) fun x11=>aG (bif decide ((64:Int) < (x11.S.length:Int)) then true else decide ((8:Int)≤(n:Int))) (some ((⟨([]:Str),([]:Str),false⟩:bI),(4:Int),(⟨l,(j:Int)⟩:b9))) (some ((⟨nm,x11.S,nt⟩:bI),(0:Int),(⟨l,wI ((j:Int) + 1)⟩:b9))))
       (bJ [0] [.box [sl aB l,vI (j:Int)],.box [vS ([]:Str),vS ([]:Str),vB false]] (fun x10=>vI x10) (fun x10=>[.box [sl aB l,vI (j:Int)],.box [vS ([]:Str),vS ([]:Str),vB false]]) (dU ⟨l,(j:Int)⟩) fun x10=>some ((⟨([]:Str),([]:Str),false⟩:bI),x10,(⟨l,(j:Int)⟩:b9)))) =
      some (vSr l ⟨[],[],false⟩ (rW n nm nt (tks l j))):=by
    intro j nm nt hj
    rw [Cz,a7]
    cases h:isK 3 (tks l j)
    · rw [a6,r9,a7,UW h,FR hj]
    · have hlt:=kA h
      rw [aY,bB (bO hlt),Tc h]
      rw [u4,← Bool.decide_or,aV]
      by_cases h2:64 < (nth l j).S.length ∨ 8≤n
      · rw [if_pos (by omega),if_pos h2,rP hj]
      · rw [if_neg (by omega),if_neg h2,vC (by omega),bF (by omega)]; rfl
  rcases (mR (tks l i)).toks hi with ⟨e,j,hr,h1,h2,h0,_⟩ | ⟨nm,j,hr,h1,h2,hq⟩ <;> rw [hr]
  · rw [rP h2]
    simp only [aZ,bK,aV,if_neg h0,bL]
    rw [rP h2]
  · rw [vC h2]
    simp only [aZ,bK,aV,if_true,bL]
    rw [nI l j _ hl,a7]
    cases hs:isT 4 [33,61] (tks l j)
    · simp only [a6,Bool.false_eq_true,if_false]
      rw [nI l j _ hl,a7]
      cases hs2:isT 4 [61] (tks l j)
      · simp only [a6,Bool.false_eq_true,if_false]
        rw [r9,a7,FR h2]
      · have:=eM hs2
        simp only [aY,if_true,dK]
        exact tail (j + 1) nm false (by omega)
    · have:=eM hs
      simp only [aY,if_true,dK]
      exact tail (j + 1) nm true (by omega)
theorem Oy (l:List aL) (i:Nat) (hi:i≤l.length) (hl:l.length≤100000000):kR ⟨l,(i:Int)⟩=some (vSr l ⟨[],[]⟩ (vQ (tks l i))):=by
 unfold kR
 rw [EH l i hi hl,a7]
 unfold vQ
 rcases (mR (tks l i)).toks hi with ⟨e,j,hr,h1,h2,h0,_⟩ | ⟨nm,j,hr,h1,h2,hq⟩ <;> rw [hr]
 ·rw [rP h2]
  simp only [aZ,bK,aV,if_neg h0,bL]
  rw [rP h2]
 ·rw [vC h2]
  simp only [aZ,fY,bK,aV,if_true,bL,GV]
  rw [nI l j _ hl,a7]
  cases hs:isT 4 [123] (tks l j)
  ·simp only [a6,Bool.false_eq_true,if_false]
   rw [vC h2]
  ·have hj:=eM hs
   simp only [aY,if_true,dK]
   rw [nI l (j + 1) _ hl,a7]
   cases hs2:isT 4 [125] (tks l (j + 1))
   ·simp only [a6,Bool.false_eq_true,if_false]
    refine (eN (fun x:List aL × Int × List bI=>x.1=l∧(0≤x.2.1∧x.2.1≤l.length)∧x.2.2.length≤8) (fun x=>9 - x.2.2.length) (fun x=>vSr l ⟨[],[]⟩ (mV nm (8 - x.2.2.length) x.2.2 (tks l x.2.1.toNat))) ?_ (by refine ⟨rfl,?_,?_⟩ <;> simp only [List.length_nil] <;> omega)).trans (by simp)
    rintro ⟨l',k,acc⟩ ⟨rfl,hk,ha⟩
    simp only at hk ha ⊢
    obtain ⟨k,rfl⟩:=Int.eq_ofNat_of_zero_le hk.1
    simp only [Int.toNat_natCast]
    rw [Jq l' k acc.length (by omega) hl (by omega),a7]
    rcases (zS acc.length (tks l' k)).toks (by omega) with ⟨e,m,hr,h1,h2,h0,_⟩ | ⟨x,m,hr,h1,h2,hq⟩
    ·left
     have hL:mV nm (8 - acc.length) acc (tks l' k)=.er (tks l' m) e:=by
      rcases h8:8 - acc.length with _ | f <;> (unfold mV; rw [hr])
     rw [hr,hL,rP h2,rP h2,if_neg h0]
     rfl
    ·rw [hr,vC h2]
     have h8:8 - acc.length=(7 - acc.length) + 1:=by have:=hq.2; omega
     have hL:mV nm (8 - acc.length) acc (tks l' k)=if isT 4 [125] (tks l' m) then .ok ⟨nm,acc ++ [x]⟩ (tks l' m).tail else if isT 4 [44] (tks l' m) then mV nm (7 - acc.length) (acc ++ [x]) (tks l' m).tail else wr (tks l' m):=by
      rw [h8]
      conv=>lhs; unfold mV
      rw [hr]
     rw [hL]
     simp only [if_true]
     rw [aP (by simp only [List.length_cons,List.length_nil]; omega),nI l' m _ hl,a7]
     cases hs3:isT 4 [125] (tks l' m)
     ·simp only [a6,Bool.false_eq_true,if_false]
      rw [nI l' m _ hl,a7]
      cases hs4:isT 4 [44] (tks l' m)
      ·left
       simp only [a6,Bool.false_eq_true,if_false]
       rw [r9,a7,FR h2]; rfl
      ·right
       have:=eM hs4
       simp only [aY,if_true,dK]
       refine ⟨_,rfl,⟨rfl,⟨?_,?_⟩,?_⟩,?_,?_⟩
       ·simp only; omega
       ·simp only; omega
       ·simp only [List.length_append,List.length_singleton]; omega
       ·simp only [List.length_append,List.length_singleton]; omega
       ·simp only [List.length_append,List.length_singleton,Int.toNat_natCast]
        rw [show 8 - (acc.length + 1)=7 - acc.length by omega]
     ·left
      have:=eM hs3
      simp only [aY,if_true,dK]
      rw [vC (by omega)]; rfl
   ·have:=eM hs2
    simp only [aY,if_true]
    rw [vC (by omega)]
theorem J5 (l:List aL) (i:Nat) (hi:i≤l.length) (hl:l.length≤100000000):uZ l (i:Int)=some (vT l ⟨[],[]⟩ (vQ (tks l i))):=by
 unfold uZ
 simp only [aZ,aV]
 rw [if_neg (by omega),show min (i:Int) (l.length:Int)=(i:Int) by omega,Oy l i hi hl,a7]
 rfl
end Go.Proofs.YthgenmkengbmmaaGreatDoor.AM
namespace Go.Proofs.YthgenmkengbmmaaGreatDoor.AM

open Go
end Go.Proofs.YthgenmkengbmmaaGreatDoor.AM
namespace Go.Proofs.YthgenmkengbmmaaGreatDoor.AM
open Go
abbrev zE:bX:=⟨⟨[],[]⟩,0,0⟩
theorem B2 (l:List aL) (i:Nat) (s:Str):rC l (i:Int) s=some (isT 4 s (tks l i)):=by
 unfold rC
 simp only [aZ,aV,bL]
 by_cases h:i < l.length
 ·rw [if_pos (by omega),bB (bO h),DD h]
  by_cases h1:(nth l i).K=4
  ·simp [h1]
  ·simp [h1]
 ·rw [if_neg (by omega),gK (by omega)]; rfl
theorem qF (l:List aL) (i:Nat):kC l (i:Int)=some (wrE (tks l i)):=by
 unfold kC
 simp only [aZ,aV,bL]
 by_cases h:i < l.length
 ·rw [if_neg (by omega),lF h]; rfl
 ·rw [if_pos (by omega),gK (by omega)]; rfl
theorem R3 (s:Str) (i:Nat) (g:Str) (hi:1≤i∧i≤6) (h:gl1[i]?=some g):opB s=i ↔ s=g:=by
  have:i=1 ∨ i=2 ∨ i=3 ∨ i=4 ∨ i=5 ∨ i=6:=by omega
  unfold opB
  rcases this with rfl | rfl | rfl | rfl | rfl | rfl <;> cases h <;>
    (by_cases h1:s=[62]
     · subst h1; decide
     by_cases h2:s=[62,61]
     · subst h2; decide
     by_cases h3:s=[60]
     · subst h3; decide
     by_cases h4:s=[60,61]
     · subst h4; decide
     by_cases h5:s=[61,61]
     · subst h5; decide
     by_cases h6:s=[33,61]
     · subst h6; decide
     simp [h1,h2,h3,h4,h5,h6])
theorem Sf (t:List Kt) (i:Nat) (g:Str) (hi:1≤i∧i≤6) (h:gl1[i]?=some g):isT 4 g t=true ↔ opP t=i:=by
 rcases t with _ | ⟨x,r⟩
 ·simp only [isT,opP]; constructor
  ·intro h; cases h
  ·intro h; omega
 ·simp only [isT,opP,Bool.and_eq_true,decide_eq_true_eq]
  by_cases h1:x.1=4
  ·rw [if_pos h1,R3 _ i g hi h]; simp [h1]
  ·rw [if_neg h1]; constructor
   ·intro h2; exact absurd h2.1 h1
   ·intro h2; omega
theorem UT (i:Nat) (h:i < 7):∃ g,gl1[i]?=some g∧(1≤i→g ≠ []):=by
 have:i=0 ∨ i=1 ∨ i=2 ∨ i=3 ∨ i=4 ∨ i=5 ∨ i=6:=by omega
 rcases this with rfl | rfl | rfl | rfl | rfl | rfl | rfl
 ·exact ⟨_,rfl,fun h=>absurd h (by decide)⟩
 all_goals exact ⟨_,rfl,fun _=>by decide⟩
theorem Sz (i:Int):oL i=some (decide (1≤i∧i≤6)):=by
 unfold oL
 simp only [aZ,bL,jV,← Bool.decide_and]
def qU (n:Nat):Pr bX→Pr bX
 | .er u e=>.er u e
 | .ok x u=>yS n x u
theorem Nm {f:Nat}{t:List Kt} (h:isT 4 [40] t=false):fL f t=oG t:=by
 cases f <;> (unfold fL; rw [h]; rfl)
theorem O8 (k:Nat) (r:Pr bX):qU (k + 1) r=qU k (match r with
   | .er u e=>.er u e
   | .ok x u=>if isT 4 [41] u then .ok x u.tail else wr u):=by
 cases r with
 | er u e=>rfl
 | ok x u=>
  simp only [qU,yS]
  cases isT 4 [41] u <;> rfl
theorem TQ {s:cN}{k:Int}{t:List Kt} (h:isK 2 t=false):sW s k t=wr t:=by
 rcases t with _ | ⟨x,r⟩
 ·rfl
 ·simp only [isK,decide_eq_false_iff_not] at h
  simp only [sW,if_neg h]; try rfl
theorem Sg {s:cN}{k:Int}{l:List aL}{i:Nat} (h:isK 2 (tks l i)=true):sW s k (tks l i)=if (pK (nth l i).S).2=0 then .ok ⟨s,k,(pK (nth l i).S).1⟩ (tks l (i + 1)) else .er (tks l i) (pK (nth l i).S).2:=by
 have hl:=kA h
 rw [lF hl] at h ⊢
 simp only [isK,decide_eq_true_eq] at h
 simp only [sW,if_pos h]; try rfl
theorem Pt {l:List aL}{i:Nat}{k:Int} (h:i < l.length):(nth l i).K=k ↔ isK k (tks l i)=true:=by
 rw [rH h,decide_eq_true_eq]
theorem Oi {ph:Int × Int→List (Nat × AV)}{ob:Int × Int→List Obj}{o1:Bool→List Obj}{o2:Int→List Obj} (l:List aL) (hl:l.length≤100000000) (x:bX) (k:Nat) (hk:k≤32) (j:Nat) (hj:j≤l.length) :
  bU ph ob (fun (x29:Int × Int)=>if x29.2 < (k:Int) then aN vB o1 (rC l x29.1 ([41]:Str)) fun x31=>aG x31 (bE (wI (x29.1 + 1),wI (x29.2 + 1))) (aN vI o2 (kC l x29.1) fun x33=>a8 (some (zE,x29.1,x33)))
   else a8 (some (x,x29.1,(0:Int)))) ((j:Int),(0:Int))=some (vT l zE (yS k x (tks l j))):=by
 refine (eN (fun s:Int × Int=>(0≤s.1∧s.1≤l.length)∧(0≤s.2∧s.2≤k)) (fun s=>k + 1 - s.2.toNat) (fun s=>vT l zE (yS (k - s.2.toNat) x (tks l s.1.toNat))) ?_ (by refine ⟨⟨?_,?_⟩,?_,?_⟩ <;> simp only <;> omega)).trans (by simp)
 rintro ⟨i,c⟩ ⟨hi,hc⟩
 simp only at hi hc ⊢
 obtain ⟨i,rfl⟩:=Int.eq_ofNat_of_zero_le hi.1
 obtain ⟨c,rfl⟩:=Int.eq_ofNat_of_zero_le hc.1
 simp only [Int.toNat_natCast]
 by_cases h:c < k
 ·rw [if_pos (by omega),B2,aD,show k - c=(k - (c + 1)) + 1 by omega]
  simp only [yS]
  cases hs:isT 4 [41] (tks l i)
  ·left
   simp only [a6,Bool.false_eq_true,if_false]
   rw [qF,aD,WL (by omega)]; rfl
  ·right
   have:=eM hs
   simp only [aY,if_true,dK]
   rw [bF (by omega),bF (by omega)]
   refine ⟨_,rfl,⟨⟨?_,?_⟩,?_,?_⟩,?_,?_⟩
   ·simp only; omega
   ·simp only; omega
   ·simp only; omega
   ·simp only; omega
   ·simp only; omega
   ·simp only
    rw [show ((c:Int) + 1).toNat=c + 1 by omega,show ((i:Int) + 1).toNat=i + 1 by omega]
 ·left
  rw [if_neg (by omega),show k - c=0 by omega]
  simp only [yS]
  rw [GH (by omega)]; rfl
theorem IM (l:List aL) (i:Nat) (hs:SmT l) (hi:i≤l.length):sG l (i:Int)=some (vT l zE (wD (tks l i))):=by
 have hl:=hs.1
 unfold sG
 simp only [aZ,aV,bK,bL]
 rw [if_neg (by omega)]
 refine (eN (fun s:Int × Int=>(0≤s.1∧s.1≤l.length)∧(0≤s.2∧s.2≤32)) (fun s=>33 - s.2.toNat) (fun s=>vT l zE (qU s.2.toNat (fL (32 - s.2.toNat) (tks l s.1.toNat)))) ?_ (by refine ⟨⟨?_,?_⟩,?_,?_⟩ <;> simp only <;> omega)).trans ?_
 ·rintro ⟨j,k⟩ ⟨hj,hk⟩
  simp only at hj hk ⊢
  obtain ⟨j,rfl⟩:=Int.eq_ofNat_of_zero_le hj.1
  obtain ⟨k,rfl⟩:=Int.eq_ofNat_of_zero_le hk.1
  simp only [Int.toNat_natCast]
  rw [B2,aD]
  cases ho:isT 4 [40] (tks l j)
  ·left
   rw [a6,Nm ho,J5 l j (by omega) hl,aD]
   unfold oG
   rcases (Ia (tks l j)).toks (by omega) with ⟨e,m,hr,h1,h2,h0,_⟩ | ⟨s,m,hr,h1,h2,hq⟩ <;> rw [hr]
   ·rw [sY h2]
    simp only [if_neg h0,qU]
    rw [sY h2]; rfl
   ·rw [GH h2]
    simp only [if_true]
    refine congrArg a8 (?_:_=some (vT l zE (qU k (if opP (tks l m)=0 then wr (tks l m) else sW s (opP (tks l m)) (tks l m).tail))))
    have hop:=PC (tks l m)
    refine (lJ 7 (fun i a=>a=if opP (tks l m) < i then opP (tks l m) else 0) (fun _ _=>vT l zE (qU k (if opP (tks l m)=0 then wr (tks l m) else sW s (opP (tks l m)) (tks l m).tail))) ?_ ?_ ?_)
    ·intro i a hi ha
     right
     obtain ⟨g,hg,hg2⟩:=UT i hi
     rw [if_pos (by simp only; omega),bB hg,Sz,aD,aV]
     simp only [B2,aD]
     rw [bF (show -9223372036854775808≤(i:Int) + 1∧_ by omega),show (i:Int) + 1=((i + 1:Nat):Int) by omega]
     by_cases h1:1≤i
     ·have hiff:=Sf (tks l m) i g ⟨h1,by omega⟩ hg
      rw [if_pos (by omega)]
      cases hx:isT 4 g (tks l m)
      ·have hne:opP (tks l m) ≠ i:=fun h=>by have:=hiff.2 h; rw [hx] at this; cases this
       refine ⟨a,rfl,?_,trivial⟩
       rw [ha]
       by_cases h2:opP (tks l m) < i
       ·rw [if_pos h2,if_pos (by omega)]
       ·rw [if_neg h2,if_neg (by omega)]
      ·have he:=hiff.1 hx
       refine ⟨(i:Int),rfl,?_,trivial⟩
       rw [if_pos (by omega),he]
     ·rw [if_neg (by omega)]
      refine ⟨a,rfl,?_,trivial⟩
      rw [ha,if_neg (by omega)]
      by_cases h2:opP (tks l m) < ((i + 1:Nat):Int)
      ·rw [if_pos h2]; omega
      ·rw [if_neg h2]
    ·intro a ha
     rw [if_pos (by omega)] at ha
     subst ha
     rw [if_neg (by simp only; omega)]
     simp only
     by_cases h0:opP (tks l m)=0
     ·rw [if_pos h0,if_pos h0,qF,aD]
      simp only [qU,wr]
      rw [sY h2]; rfl
     ·rw [if_neg h0,if_neg h0]
      obtain ⟨x,hx⟩:=Lf h0
      have hm:m < l.length:=by
       rcases Nat.lt_or_ge m l.length with h | h
       ·exact h
       ·rw [gK h] at h0; exact absurd rfl h0
      rw [bF (show -9223372036854775808≤(m:Int) + 1∧_ by omega),show (m:Int) + 1=((m + 1:Nat):Int) by omega,dK]
      by_cases hm1:m + 1 < l.length
      ·rw [if_neg (by omega),bB (bO hm1)]
       cases hk2:isK 2 (tks l (m + 1))
       ·rw [if_neg (fun h=>by rw [Pt hm1,hk2] at h; cases h),qF,aD,TQ hk2]
        simp only [qU,wr]
        rw [sY (by omega)]; rfl
       ·rw [if_pos ((Pt hm1).2 hk2),JB _ (hs.2 _ (fN hm1)),aD,SR,Sg hk2]
        by_cases h3:(pK (nth l (m + 1)).S).2=0
        ·rw [if_pos h3,if_pos h3]
         simp only [qU]
         rw [bF (by omega),show ((m + 1:Nat):Int) + 1=((m + 2:Nat):Int) by omega]
         rw [Oi l hl _ k (by omega) (m + 2) (by omega)]; rfl
        ·rw [if_neg h3,if_neg h3]
         simp only [qU]
         rw [sY (by omega)]; rfl
      ·rw [if_pos (by omega),qF,aD,gK (show l.length≤m + 1 by omega)]
       have:vT l zE (Pr.er (tks l (m + 1)) 3)=(zE,((m + 1:Nat):Int),3):=sY (by omega)
       rw [gK (show l.length≤m + 1 by omega)] at this
       simp only [sW,qU,wrE,this]; try rfl
    ·rw [if_neg (by omega)]
  ·have hj2:=eM ho
   rw [aY]
   by_cases h32:k=32
   ·left
    subst h32
    rw [if_pos (by omega)]
    show a8 _=some (Sum.inr (vT l zE (qU 32 (fL 0 (tks l j)))))
    unfold fL
    rw [ho]
    simp only [if_true,qU]
    rw [sY (by omega)]; rfl
   ·right
    rw [if_neg (by omega),bF (by omega),bF (by omega)]
    refine ⟨_,rfl,⟨⟨?_,?_⟩,?_,?_⟩,?_,?_⟩
    ·simp only; omega
    ·simp only; omega
    ·simp only; omega
    ·simp only; omega
    ·simp only; omega
    ·simp only
     rw [show ((k:Int) + 1).toNat=k + 1 by omega,show ((j:Int) + 1).toNat=j + 1 by omega,show 32 - k=(32 - (k + 1)) + 1 by omega]
     congr 1
     conv=>rhs; unfold fL
     rw [ho,O8]
     simp only [if_true,dK]
     try rfl
 ·simp only [Int.toNat_natCast]
  show some (vT l zE (qU 0 (fL 32 (tks l i))))=some (vT l zE (fL 32 (tks l i)))
  congr 2
  cases fL 32 (tks l i) <;> rfl
abbrev zR:aR:=⟨[],⟨⟨[],[]⟩,0,0⟩,0,0,[]⟩
theorem mC (l:List aL) (i:Nat) (r:aR) (k:Int):dR k ⟨l,(i:Int),r⟩=some (isK k (tks l i)):=by
 unfold dR
 simp only [aZ,aV,bL]
 by_cases h:i < l.length
 ·rw [if_pos (by omega),bB (bO h),rH h]
 ·rw [if_neg (by omega),gK (by omega)]; rfl
theorem eY (l:List aL) (i:Nat) (r:aR):cF ⟨l,(i:Int),r⟩=some (wrE (tks l i)):=by
 unfold cF
 simp only [aZ,aV,bL]
 by_cases h:i < l.length
 ·rw [if_neg (by omega),lF h]; rfl
 ·rw [if_pos (by omega),gK (by omega)]; rfl
theorem Wi {k:Int}{s:Str}{t:List Kt} (h:isK k t=false):isT k s t=false:=by
 rcases t with _ | ⟨x,r⟩
 ·rfl
 ·simp only [isK] at h
  simp only [isT,h,Bool.false_and]
theorem BJ (l:List aL) (i:Nat) (r:aR) (k:Int) (s:Str):gW k s ⟨l,(i:Int),r⟩=some (isT k s (tks l i)):=by
 unfold gW
 rw [i7,mC,a7]
 simp only [aZ,bL]
 cases h:isK k (tks l i)
 ·rw [Wi h]; rfl
 ·have hlt:=kA h
  rw [rH hlt] at h
  rw [aY,bB (bO hlt),DD hlt,h,Bool.true_and]
theorem iM (l:List aL) (i:Nat) (r:aR) (k:Int) (s:Str) (hl:l.length≤100000000):cR k s ⟨l,(i:Int),r⟩=some (isT k s (tks l i),⟨l,if isT k s (tks l i) then ((i + 1:Nat):Int) else (i:Int),r⟩):=by
 unfold cR
 rw [BJ,a7]
 simp only [aZ,bL]
 cases h:isT k s (tks l i)
 ·rfl
 ·have hlt:=eM h
  rw [aY,bF (by omega)]; rfl
theorem KI {t:List Kt} (h:isK 2 t=false):eX t=wr t:=by
 rcases t with _ | ⟨x,r⟩
 ·rfl
 ·simp only [isK,decide_eq_false_iff_not] at h
  simp only [eX,if_neg h]; try rfl
theorem HM {l:List aL}{i:Nat} (h:isK 2 (tks l i)=true):eX (tks l i)=if (kV (nth l i).S).2=0 then .ok (kV (nth l i).S).1 (tks l (i + 1)) else .er (tks l i) (kV (nth l i).S).2:=by
 have hl:=kA h
 rw [lF hl] at h ⊢
 simp only [isK,decide_eq_true_eq] at h
 simp only [eX,if_pos h]; try rfl
theorem LH (l:List aL) (i:Nat) (r:aR) (hs:SmT l) (hi:i≤l.length):gO ⟨l,(i:Int),r⟩=some ((eX (tks l i)).err,⟨l,iA l (eX (tks l i)).rem,⟨r.Name,r.E,(eX (tks l i)).val r.For,r.Keep,r.Labels⟩⟩):=by
 have hl:=hs.1
 unfold gO
 rw [mC,a7]
 simp only [aZ,bK,aV,bL,i7]
 cases h:isK 2 (tks l i)
 ·rw [a6,eY,a7,KI h]
  simp only [wr,Pr.err,Pr.rem,Pr.val,bN hi]
 ·have hlt:=kA h
  rw [aY,bB (bO hlt),rT _ (hs.2 _ (fN hlt)),aD,HM h]
  by_cases h0:(kV (nth l i).S).2=0
  ·rw [if_pos h0,if_pos h0,bF (by omega),show (i:Int) + 1=((i + 1:Nat):Int) by omega]
   simp only [Pr.err,Pr.rem,Pr.val,bN (show i + 1≤l.length by omega)]
  ·rw [if_neg h0,if_neg h0]
   simp only [Pr.err,Pr.rem,Pr.val,bN hi]
theorem K6 (l:List aL) (i:Nat) (r:aR) (hs:SmT l) (hi:i≤l.length):gB ⟨l,(i:Int),r⟩=some ((eX (tks l i)).err,⟨l,iA l (eX (tks l i)).rem,⟨r.Name,r.E,r.For,(eX (tks l i)).val r.Keep,r.Labels⟩⟩):=by
 have hl:=hs.1
 unfold gB
 rw [mC,a7]
 simp only [aZ,bK,aV,bL,i7]
 cases h:isK 2 (tks l i)
 ·rw [a6,eY,a7,KI h]
  simp only [wr,Pr.err,Pr.rem,Pr.val,bN hi]
 ·have hlt:=kA h
  rw [aY,bB (bO hlt),rT _ (hs.2 _ (fN hlt)),aD,HM h]
  by_cases h0:(kV (nth l i).S).2=0
  ·rw [if_pos h0,if_pos h0,bF (by omega),show (i:Int) + 1=((i + 1:Nat):Int) by omega]
   simp only [Pr.err,Pr.rem,Pr.val,bN (show i + 1≤l.length by omega)]
  ·rw [if_neg h0,if_neg h0]
   simp only [Pr.err,Pr.rem,Pr.val,bN hi]
theorem PV {l:List aL}{i:Nat}:kZ (tks l i)=if isK 1 (tks l i) then (if isT 4 [61] (tks l (i + 1)) then (if isK 3 (tks l (i + 2)) then .ok ⟨(nth l i).S,(nth l (i + 2)).S⟩ (tks l (i + 3)) else wr (tks l (i + 2))) else wr (tks l (i + 1))) else wr (tks l i):=by
 rcases Nat.lt_or_ge i l.length with h | h
 ·rw [rH h]
  rw [lF h]
  simp only [kZ]
  have e:(kv (nth l i)).1=(nth l i).K:=rfl
  rw [e]
  by_cases h1:(nth l i).K=1
  ·simp only [h1,if_true,decide_true]
   cases h2:isT 4 [61] (tks l (i + 1))
   ·rfl
   ·simp only [if_true,dK]
    rcases Nat.lt_or_ge (i + 2) l.length with h3 | h3
    ·rw [rH h3,show i + 1 + 1=i + 2 by omega,lF h3]
     simp only
     have e:(kv (nth l (i + 2))).1=(nth l (i + 2)).K:=rfl
     rw [e]
     by_cases h4:(nth l (i + 2)).K=3
     ·simp only [h4,if_true,decide_true]; try rfl
     ·simp only [h4,if_false,decide_false,Bool.false_eq_true]; try rfl
    ·rw [show i + 1 + 1=i + 2 by omega,gK h3]; rfl
  ·simp only [h1,if_false,decide_false,Bool.false_eq_true]; try rfl
 ·rw [gK h]; rfl
def vRr {α:Type} (l:List aL) (rl:aR) (z:α) (r:Pr α):α × Int × aX:=(r.val z,r.err,⟨l,iA l r.rem,rl⟩)
theorem P6 {α:Type}{l:List aL}{rl:aR}{z:α}{j:Nat}{e:Int} (h:j≤l.length):vRr l rl z (.er (tks l j) e)=(z,e,⟨l,(j:Int),rl⟩):=by
 simp only [vRr,Pr.val,Pr.rem,Pr.err,bN h]
theorem Pm {α:Type}{l:List aL}{rl:aR}{z a:α}{j:Nat} (h:j≤l.length):vRr l rl z (.ok a (tks l j))=(a,0,⟨l,(j:Int),rl⟩):=by
 simp only [vRr,Pr.val,Pr.rem,Pr.err,bN h]
theorem Jx {α:Type}{l:List aL}{rl:aR}{z:α}{j:Nat} (h:j≤l.length):vRr l rl z (wr (tks l j))=(z,wrE (tks l j),⟨l,(j:Int),rl⟩):=P6 h
theorem KG (l:List aL) (i:Nat) (r:aR) (hl:l.length≤100000000) (hi:i≤l.length):jK ⟨l,(i:Int),r⟩=some (vRr l r ⟨[],[]⟩ (kZ (tks l i))):=by
 unfold jK
 rw [mC,a7,PV]
 simp only [aZ,bK,aV,bL]
 cases h:isK 1 (tks l i)
 ·simp only [a6,Bool.false_eq_true,if_false]
  rw [eY,a7,Jx hi]
 ·have hlt:=kA h
  simp only [aY,if_true]
  rw [bB (bO hlt),bF (by omega),show (i:Int) + 1=((i + 1:Nat):Int) by omega,iM l (i + 1) r 4 _ hl,a7]
  cases h2:isT 4 [61] (tks l (i + 1))
  ·simp only [a6,Bool.false_eq_true,if_false]
   rw [eY,a7,Jx (by omega)]
  ·have:=eM h2
   simp only [aY,if_true]
   rw [mC,a7]
   cases h3:isK 3 (tks l (i + 1 + 1))
   ·simp only [a6,Bool.false_eq_true,if_false]
    rw [eY,a7,Jx (by omega)]
   ·have h4:=kA h3
    simp only [aY,if_true]
    rw [bB (bO h4),bF (by omega),Pm (by omega)]; rfl
def vO (more:Bool) (acc:List aQ) (t:List Kt):Pr (List aQ) :=
 if more then (match pW acc t with
  | .er u e=>.er u e
  | .ok l u=>t6 l u) else (if isT 4 [125] t then t6 acc t else wr t)
theorem Pv (acc:List aQ) (t:List Kt):vO true acc t=match kZ t with
  | .er u e=>.er u e
  | .ok p u=>if isT 4 [44] u then vO true (acc ++ [p]) u.tail else vO false (acc ++ [p]) u:=by
 conv=>lhs; unfold vO
 rw [if_pos rfl,CS]
 cases kZ t with
 | er u e=>rfl
 | ok p u=>
  simp only
  cases h:isT 4 [125] u
  ·cases h2:isT 4 [44] u
   ·simp only [Bool.false_eq_true,if_false,vO,h]; try rfl
   ·simp only [Bool.false_eq_true,if_false,vO,if_true]
  ·have e:=s8 h
   have:isT 4 [44] u=false:=by rw [e]; exact lT _ (.inl (by decide))
   simp only [if_true,vO,h,this,Bool.false_eq_true,if_false]
theorem OW (t:List Kt):jU t=if isT 4 [123] t then vO (!isT 4 [125] t.tail) [] t.tail else wr t:=by
 unfold jU
 cases isT 4 [123] t
 ·rfl
 ·simp only [if_true]
  cases h:isT 4 [125] t.tail
  ·simp only [Bool.false_eq_true,if_false,Bool.not_false,vO,if_true]; try rfl
  ·simp only [if_true,Bool.not_true,vO,h,Bool.false_eq_true,if_false]
theorem Qg {l:List aQ}:(gT l).1.length≤l.length:=by
 unfold gT; split
 ·exact Nat.le_of_eq (wW l).length_eq
 ·simp
theorem GQ (l:List aL) (i:Nat) (r:aR) (hl:l.length≤100000000) (hi:i≤l.length):iI ⟨l,(i:Int),r⟩=some ((jU (tks l i)).err,⟨l,iA l (jU (tks l i)).rem,⟨r.Name,r.E,r.For,r.Keep,(jU (tks l i)).val r.Labels⟩⟩):=by
 unfold iI
 rw [iM l i r 4 _ hl,a7,OW]
 simp only [aZ,fY,DN,bK,aV,bL]
 cases h:isT 4 [123] (tks l i)
 ·simp only [a6,Bool.false_eq_true,if_false]
  rw [eY,a7]
  simp only [wr,Pr.err,Pr.rem,Pr.val,bN hi]
 ·have hlt:=eM h
  simp only [aY,if_true,dK]
  rw [BJ,a7]
  obtain ⟨nm,⟨⟨sn,sm⟩,op,v⟩,fr,kp,lb⟩:=r
  refine (eN (fun x:(List aL) × Int × Str × Str × (List bI) × Int × Int × Int × Int × (List aQ) × (List aQ) × Bool=>∃ (j:Nat) (acc:List aQ) (more:Bool),x=(l,(j:Int),nm,sn,sm,op,v,fr,kp,lb,acc,more)∧j≤l.length∧acc.length≤j) (fun x=>l.length - x.2.1.toNat)
   (fun x=>let g:=vO x.2.2.2.2.2.2.2.2.2.2.2 x.2.2.2.2.2.2.2.2.2.2.1 (tks l x.2.1.toNat); (g.err,⟨l,iA l g.rem,⟨nm,⟨⟨sn,sm⟩,op,v⟩,fr,kp,g.val lb⟩⟩)) ?_ ⟨i + 1,[],_,rfl,by omega,by simp⟩).trans (by simp only [Int.toNat_natCast])
  rintro _ ⟨j,acc,more,rfl,hj,ha⟩
  simp only [Int.toNat_natCast]
  cases more
  ·left
   rw [a6,BJ,a7]
   unfold vO
   simp only [Bool.false_eq_true,if_false]
   cases h2:isT 4 [125] (tks l j)
   ·simp only [a6,Bool.false_eq_true,if_false]
    rw [eY,a7]
    simp only [wr,Pr.err,Pr.rem,Pr.val,bN hj]; try rfl
   ·have hj2:=eM h2
    simp only [aY,if_true]
    rw [IJ,aD]
    unfold t6
    by_cases h0:(gT acc).2=0
    ·rw [if_pos h0,if_pos h0,xW _ (by have:=@Qg acc; omega),aD]
     cases h3:(gT acc).1.any fun p=>Bl p.1
     ·simp only [a6,Bool.false_eq_true,if_false]
      rw [bF (by omega),dK,show (j:Int) + 1=((j + 1:Nat):Int) by omega]
      simp only [Pr.err,Pr.rem,Pr.val,bN (show j + 1≤l.length by omega)]; try rfl
     ·simp only [aY,if_true]
      simp only [Pr.err,Pr.rem,Pr.val,bN hj]; try rfl
    ·rw [if_neg h0,if_neg h0]
     simp only [Pr.err,Pr.rem,Pr.val,bN hj]; try rfl
  ·rw [aY,KG l j _ hl hj,a7,Pv]
   rcases (wV (tks l j)).toks hj with ⟨e,m,hr,h1,h2,h0,_⟩ | ⟨p,m,hr,h1,h2,hq⟩ <;> rw [hr]
   ·left
    rw [P6 h2]
    simp only [if_neg h0]
    simp only [Pr.err,Pr.rem,Pr.val,bN h2]; try rfl
   ·right
    rw [Pm h2]
    simp only [if_true]
    rw [aP (by simp only [List.length_cons,List.length_nil]; omega),iM l m _ 4 _ hl,a7]
    cases h3:isT 4 [44] (tks l m)
    ·refine ⟨_,rfl,⟨m,acc ++ [p],false,rfl,h2,by simp only [List.length_append,List.length_singleton]; omega⟩,?_,?_⟩
     ·simp only [Bool.false_eq_true,if_false,Int.toNat_natCast]; omega
     ·simp only [Bool.false_eq_true,if_false,Int.toNat_natCast]
    ·have hm:=eM h3
     refine ⟨_,rfl,⟨m + 1,acc ++ [p],true,rfl,by omega,by simp only [List.length_append,List.length_singleton]; omega⟩,?_,?_⟩
     ·simp only [if_true,Int.toNat_natCast]; omega
     ·simp only [if_true,Int.toNat_natCast,dK]
def F3 (r:aR) (t:List Kt):Pr aR:=if isT 4 [59] t then .ok r t.tail else wr t
def Bv (r:aR) (t:List Kt):Pr aR:=if isT 1 kG t then (match jU t.tail with
 | .er u e=>.er u e
 | .ok m u=>F3 ⟨r.Name,r.E,r.For,r.Keep,m⟩ u) else F3 r t
def BN (r:aR) (t:List Kt):Pr aR:=if isT 1 jE t then (match eX t.tail with
 | .er u e=>.er u e
 | .ok d u=>Bv ⟨r.Name,r.E,r.For,d,r.Labels⟩ u) else Bv r t
def DA (r:aR) (t:List Kt):Pr aR:=if isT 1 kW t then (match eX t.tail with
 | .er u e=>.er u e
 | .ok d u=>BN ⟨r.Name,r.E,d,r.Keep,r.Labels⟩ u) else BN r t
theorem JF (nm:Str) (x:bX) (fr kp:Int) (t:List Kt):(match kJ t with
   | .er u e=>.er u e
   | .ok l t3=>if isT 4 [59] t3 then .ok ⟨nm,x,fr,kp,l⟩ t3.tail else wr t3:Pr aR)=Bv ⟨nm,x,fr,kp,[]⟩ t:=by
 unfold kJ Bv
 cases isT 1 kG t
 ·rfl
 ·simp only [if_true]
  cases jU t.tail <;> rfl
theorem KR (nm:Str) (x:bX) (fr:Int) (t:List Kt):(match rY jE t with
   | .er u e=>.er u e
   | .ok kp t2=>match kJ t2 with
    | .er u e=>.er u e
    | .ok l t3=>if isT 4 [59] t3 then .ok ⟨nm,x,fr,kp,l⟩ t3.tail else wr t3:Pr aR)=BN ⟨nm,x,fr,0,[]⟩ t:=by
 unfold rY BN
 cases isT 1 jE t
 ·exact JF nm x fr 0 t
 ·simp only [if_true]
  cases eX t.tail with
  | er u e=>rfl
  | ok d u=>exact JF nm x fr d u
theorem Nj (nm:Str) (x:bX) (t:List Kt):sC nm x t=DA ⟨nm,x,0,0,[]⟩ t:=by
 unfold sC DA
 rw [show rY kW t=if isT 1 kW t then eX t.tail else .ok 0 t from rfl]
 cases isT 1 kW t
 ·exact KR nm x 0 t
 ·simp only [if_true]
  cases eX t.tail with
  | er u e=>rfl
  | ok d u=>exact KR nm x d u
def IsR (l:List aL) (T:Pr aR) (x:Int × aX):Prop:=x.1=T.err∧x.2.l=l∧x.2.i=iA l T.rem∧∀ a u,T=.ok a u→x.2.r=a
theorem IsR.er {l:List aL}{j:Nat}{e i:Int}{r:aR} (hj:j≤l.length) (hi:i=(j:Int)):IsR l (.er (tks l j) e) (e,⟨l,i,r⟩) :=
 ⟨rfl,rfl,by simp only [Pr.rem,bN hj,hi],fun _ _ h=>by cases h⟩
theorem IsR.ok {l:List aL}{j:Nat}{i:Int}{r:aR} (hj:j≤l.length) (hi:i=(j:Int)):IsR l (.ok r (tks l j)) (0,⟨l,i,r⟩) :=
 ⟨rfl,rfl,by simp only [Pr.rem,bN hj,hi],fun _ _ h=>by cases h; rfl⟩
def VS (k:Int) (r:aR) (t:List Kt):Pr aR:=if k=0 then DA r t else if k=1 then BN r t else if k=2 then Bv r t else F3 r t
theorem S4 {β:Type} (a b c:Option β):DF 0 a b c=a:=rfl
theorem R7 {β:Type} (a b c:Option β):DF 1 a b c=b:=rfl
theorem Se {β:Type} (a b c:Option β):DF 2 a b c=c:=rfl
theorem Pb (l:List aL) (i:Nat) (r:aR) (hs:SmT l) (hi:i≤l.length):iE ⟨l,(i:Int),r⟩=some ((eX (tks l i)).err,⟨l,iA l (eX (tks l i)).rem,⟨r.Name,r.E,(eX (tks l i)).val r.For,r.Keep,r.Labels⟩⟩):=by
 unfold iE
 rw [qJ,LH l i r hs hi,a7]; rfl
theorem OS (l:List aL) (i:Nat) (r:aR) (hs:SmT l) (hi:i≤l.length):iG ⟨l,(i:Int),r⟩=some ((eX (tks l i)).err,⟨l,iA l (eX (tks l i)).rem,⟨r.Name,r.E,r.For,(eX (tks l i)).val r.Keep,r.Labels⟩⟩):=by
 unfold iG
 rw [qJ,K6 l i r hs hi,a7]; rfl
theorem KH (l:List aL) (i:Nat) (hs:SmT l) (hi:i≤l.length):∃ x,hU ⟨l,(i:Int),zR⟩=some x∧IsR l (jC (tks l i)) x:=by
 have hl:=hs.1
 unfold hU
 rw [iM l i _ 1 _ hl,a7]
 simp only [aZ,fY,Q5,qJ,bK,aV,bL]
 unfold jC
 cases h:isT 1 [114,117,108,101] (tks l i)
 ·have h':isT 1 m7 (tks l i)=false:=h
  simp only [a6,Bool.false_eq_true,if_false,h']
  rw [eY,a7]
  exact ⟨_,rfl,IsR.er hi rfl⟩
 ·have h':isT 1 m7 (tks l i)=true:=h
  have hlt:=eM h
  simp only [aY,if_true,dK,h']
  rw [mC,a7]
  cases h2:isK 1 (tks l (i + 1))
  ·simp only [a6,Bool.false_eq_true,if_false]
   rw [eY,a7,HL h2]
   exact ⟨_,rfl,IsR.er (show i + 1≤l.length by omega) rfl⟩
  ·have hlt2:=kA h2
   simp only [aY]
   rw [bB (bO hlt2),iU,aD,E5 h2]
   cases h3:cP (nth l (i + 1)).S
   ·simp only [a6,Bool.false_eq_true,if_false]
    exact ⟨_,rfl,IsR.er (show i + 1≤l.length by omega) rfl⟩
   ·simp only [aY,if_true]
    rw [bF (by omega),show ((i + 1:Nat):Int) + 1=((i + 2:Nat):Int) by omega,iM l (i + 2) _ 4 _ hl,a7]
    cases h4:isT 4 [58] (tks l (i + 2))
    ·have h4':isT 4 [58] (tks l (i + 1 + 1))=false:=h4
     simp only [a6,Bool.false_eq_true,if_false,h4']
     rw [eY,a7]
     exact ⟨_,rfl,IsR.er (show i + 2≤l.length by omega) rfl⟩
    ·have h4':isT 4 [58] (tks l (i + 1 + 1))=true:=h4
     have hlt4:=eM h4
     simp only [aY,if_true,h4',dK]
     rw [IM l (i + 2 + 1) hs (by omega),aD]
     show ∃ x,_∧IsR l (match wD (tks l (i + 2 + 1)) with
      | .er u e=>.er u e
      | .ok x t2=>sC (nth l (i + 1)).S x t2) x
     rcases (show bC (tks l (i + 2 + 1)) (wD (tks l (i + 2 + 1))) _ _ from yI 32 _).toks (by omega) with ⟨e,m,hr,h5,h6,h0,_⟩ | ⟨x,m,hr,h5,h6,hq⟩ <;> rw [hr]
     ·rw [sY h6]
      simp only [if_neg h0]
      exact ⟨_,rfl,IsR.er h6 rfl⟩
     ·rw [GH h6]
      simp only [if_true]
      rw [Nj]
      generalize (nth l (i + 1)).S=nm at *
      generalize hT:DA ⟨nm,x,0,0,[]⟩ (tks l m)=T
      refine wB (fun y:(List aL) × Int × Str × Str × (List bI) × Int × Int × Int × Int × (List aQ) × Int=>∃ (j:Nat) (q:aR) (k:Int),y=(l,(j:Int),q.Name,q.E.S.Name,q.E.S.M,q.E.Op,q.E.V,q.For,q.Keep,q.Labels,k)∧j≤l.length∧(0≤k∧k≤3)∧VS k q (tks l j)=T) (fun y=>4 - y.2.2.2.2.2.2.2.2.2.2.toNat) (fun x=>IsR l T x) ?_ ⟨m,⟨nm,x,0,0,[]⟩,0,rfl,h6,by omega,hT⟩
      rintro _ ⟨j,⟨qn,⟨⟨qs,qm⟩,qo,qv⟩,qf,qk,ql⟩,k,rfl,hj,hk,hsp⟩
      have:k=0 ∨ k=1 ∨ k=2 ∨ k=3:=by omega
      rcases this with rfl | rfl | rfl | rfl
      ·simp only [S4,show ((0:Int) < 3)=True from by simp,if_true]
       rw [iM l j _ 1 _ hl,a7,show wI ((0:Int) + 1)=1 from by decide]
       have hsp:DA ⟨qn,⟨⟨qs,qm⟩,qo,qv⟩,qf,qk,ql⟩ (tks l j)=T:=hsp
       unfold DA at hsp
       cases hF:isT 1 [102,111,114] (tks l j)
       ·have hF':isT 1 kW (tks l j)=false:=hF
        rw [hF'] at hsp
        right
        exact ⟨_,rfl,⟨j,⟨qn,⟨⟨qs,qm⟩,qo,qv⟩,qf,qk,ql⟩,1,rfl,hj,by omega,hsp⟩,by simp⟩
       ·have hF':isT 1 kW (tks l j)=true:=hF
        have hj2:=eM hF
        rw [hF'] at hsp
        simp only [aY,if_true,dK] at hsp ⊢
        rw [Pb l (j + 1) _ hs (by omega),a7]
        rcases (uK (tks l (j + 1))).toks (by omega) with ⟨e,m,hr,h5,h6,h0,_⟩ | ⟨d,m,hr,h5,h6,hq⟩ <;> rw [hr] at hsp ⊢
        ·left
         simp only [Pr.err,Pr.rem,Pr.val,bN h6,if_neg h0]
         subst hsp
         exact ⟨_,rfl,IsR.er h6 rfl⟩
        ·right
         simp only [Pr.err,Pr.rem,Pr.val,bN h6,if_true]
         exact ⟨_,rfl,⟨m,⟨qn,⟨⟨qs,qm⟩,qo,qv⟩,d,qk,ql⟩,1,rfl,h6,by omega,hsp⟩,by simp⟩
      ·simp only [R7,show ((1:Int) < 3)=True from by simp,if_true]
       rw [iM l j _ 1 _ hl,a7,show wI ((1:Int) + 1)=2 from by decide]
       have hsp:BN ⟨qn,⟨⟨qs,qm⟩,qo,qv⟩,qf,qk,ql⟩ (tks l j)=T:=hsp
       unfold BN at hsp
       cases hF:isT 1 [107,101,101,112] (tks l j)
       ·have hF':isT 1 jE (tks l j)=false:=hF
        rw [hF'] at hsp
        right
        exact ⟨_,rfl,⟨j,⟨qn,⟨⟨qs,qm⟩,qo,qv⟩,qf,qk,ql⟩,2,rfl,hj,by omega,hsp⟩,by simp⟩
       ·have hF':isT 1 jE (tks l j)=true:=hF
        have hj2:=eM hF
        rw [hF'] at hsp
        simp only [aY,if_true,dK] at hsp ⊢
        rw [OS l (j + 1) _ hs (by omega),a7]
        rcases (uK (tks l (j + 1))).toks (by omega) with ⟨e,m,hr,h5,h6,h0,_⟩ | ⟨d,m,hr,h5,h6,hq⟩ <;> rw [hr] at hsp ⊢
        ·left
         simp only [Pr.err,Pr.rem,Pr.val,bN h6,if_neg h0]
         subst hsp
         exact ⟨_,rfl,IsR.er h6 rfl⟩
        ·right
         simp only [Pr.err,Pr.rem,Pr.val,bN h6,if_true]
         exact ⟨_,rfl,⟨m,⟨qn,⟨⟨qs,qm⟩,qo,qv⟩,qf,d,ql⟩,2,rfl,h6,by omega,hsp⟩,by simp⟩
      ·simp only [Se,show ((2:Int) < 3)=True from by simp,if_true]
       rw [iM l j _ 1 _ hl,a7,show wI ((2:Int) + 1)=3 from by decide]
       have hsp:Bv ⟨qn,⟨⟨qs,qm⟩,qo,qv⟩,qf,qk,ql⟩ (tks l j)=T:=hsp
       unfold Bv at hsp
       cases hF:isT 1 [108,97,98,101,108,115] (tks l j)
       ·have hF':isT 1 kG (tks l j)=false:=hF
        rw [hF'] at hsp
        right
        exact ⟨_,rfl,⟨j,⟨qn,⟨⟨qs,qm⟩,qo,qv⟩,qf,qk,ql⟩,3,rfl,hj,by omega,hsp⟩,by simp⟩
       ·have hF':isT 1 kG (tks l j)=true:=hF
        have hj2:=eM hF
        rw [hF'] at hsp
        simp only [aY,if_true,dK] at hsp ⊢
        rw [GQ l (j + 1) _ hl (by omega),a7]
        rcases (CR (tks l (j + 1))).toks (by omega) with ⟨e,m,hr,h5,h6,h0,_⟩ | ⟨d,m,hr,h5,h6,hq⟩ <;> rw [hr] at hsp ⊢
        ·left
         simp only [Pr.err,Pr.rem,Pr.val,bN h6,if_neg h0]
         subst hsp
         exact ⟨_,rfl,IsR.er h6 rfl⟩
        ·right
         simp only [Pr.err,Pr.rem,Pr.val,bN h6,if_true]
         exact ⟨_,rfl,⟨m,⟨qn,⟨⟨qs,qm⟩,qo,qv⟩,qf,qk,d⟩,3,rfl,h6,by omega,hsp⟩,by simp⟩
      ·left
       simp only [show ((3:Int) < 3)=False from by simp,if_false]
       rw [iM l j _ 4 _ hl,a7]
       have hsp:F3 ⟨qn,⟨⟨qs,qm⟩,qo,qv⟩,qf,qk,ql⟩ (tks l j)=T:=hsp
       unfold F3 at hsp
       cases hF:isT 4 [59] (tks l j)
       ·rw [hF] at hsp
        simp only [a6,Bool.false_eq_true,if_false] at hsp ⊢
        rw [eY,a7]
        subst hsp
        exact ⟨_,rfl,IsR.er hj rfl⟩
       ·have hj2:=eM hF
        rw [hF] at hsp
        simp only [aY,if_true,dK] at hsp ⊢
        subst hsp
        exact ⟨_,rfl,IsR.ok (show j + 1≤l.length by omega) rfl⟩
theorem I7 (l:List aL) (i:Nat) (hs:SmT l):m5 l (i:Int)=some (vT l zR (jC (tks l i))):=by
 have hl:=hs.1
 unfold m5
 simp only [aZ,aV,bK,bL,qJ]
 have key:∀ j:Nat,j≤l.length→(bJ [1] [.box [vS ([]:Str),vS ([]:Str),.v (.slice none 0 0),vI (0:Int),vI (0:Int),vI (0:Int),vI (0:Int),.v (.slice none 0 0)],.box [sl aB l,vI (j:Int),vS ([]:Str),vS ([]:Str),sl aF ([]:List bI),vI (0:Int),vI (0:Int),vI (0:Int),vI (0:Int),sl aJ ([]:List aQ)]] (fun x4=>vI x4.1) (fun x4=>[.box [vS ([]:Str),vS ([]:Str),.v (.slice none 0 0),vI (0:Int),vI (0:Int),vI (0:Int),vI (0:Int),.v (.slice none 0 0)],.box [sl aB x4.2.l,vI x4.2.i,vS x4.2.r.Name,vS x4.2.r.E.S.Name,sl aF x4.2.r.E.S.M,vI x4.2.r.E.Op,vI x4.2.r.E.V,vI x4.2.r.For,vI x4.2.r.Keep,sl aJ x4.2.r.Labels]]) (hU ⟨l,(j:Int),zR⟩) fun x4=>
   if x4.1=0 then some (x4.2.r,x4.2.i,(0:Int)) else some (zR,x4.2.i,x4.1))=some (vT l zR (jC (tks l j))):=by
  intro j hj
  obtain ⟨⟨e,⟨l',i',r'⟩⟩,hx,h1,h2,h3,h4⟩:=KH l j hs hj
  rw [hx,a7]
  simp only at h1 h2 h3 h4 ⊢
  rcases (wO (tks l j)).toks hj with ⟨e',m,hr,h5,h6,h0,_⟩ | ⟨a,m,hr,h5,h6,hq⟩ <;> rw [hr] at h1 h3 h4 ⊢
  ·rw [sY h6]
   simp only [Pr.err,Pr.rem,bN h6] at h1 h3
   rw [h1,h3,if_neg h0]
  ·rw [GH h6]
   simp only [Pr.err,Pr.rem,bN h6] at h1 h3
   rw [h1,h3,if_pos rfl,h4 a _ rfl]
 rw [if_neg (by omega)]
 rcases Nat.lt_or_ge i l.length with h | h
 ·rw [show min (i:Int) (l.length:Int)=(i:Int) by omega]
  exact key i (by omega)
 ·rw [show min (i:Int) (l.length:Int)=(l.length:Int) by omega,gK h]
  have:=key l.length (Nat.le_refl _)
  rw [gK (Nat.le_refl _)] at this
  exact this
end Go.Proofs.YthgenmkengbmmaaGreatDoor.AM
namespace Go.Proofs.YthgenmkengbmmaaGreatDoor.AM

open Go
end Go.Proofs.YthgenmkengbmmaaGreatDoor.AM
namespace Go.Proofs.YthgenmkengbmmaaGreatDoor.AM

open Go
end Go.Proofs.YthgenmkengbmmaaGreatDoor.AM
namespace Go.Proofs.YthgenmkengbmmaaGreatDoor.AM
open Go
open Go.Lib (decDigits)
theorem i8 {s:Str} (h:cP s=true):s.length≤64:=by
 obtain ⟨c,w,rfl,_,_,h4⟩:=Ew h
 simp only [List.length_cons]; omega
theorem FO {m:bI} (h:mOk m=true):(matchS m).length≤200:=by
 simp only [mOk,Bool.and_eq_true,decide_eq_true_eq] at h
 have h1:=i8 h.1
 have h2:=CC m.Value
 unfold matchS
 simp only [List.length_append]
 have:(if m.Not=true then ([33,61]:Str) else [61]).length≤2:=by split <;> simp
 omega
def Kv (s:cN):Str:=if lX s then selS s else []
theorem wY {s:cN} (h:lX s=true):cP s.Name=true∧s.M.length≤8∧∀ m ∈ s.M,mOk m=true:=by
 simp only [lX,Bool.and_eq_true,decide_eq_true_eq,List.all_eq_true] at h
 exact ⟨h.1.1,h.1.2,h.2⟩
theorem K5 (s:cN):uN s=some (Kv s):=by
 unfold uN Kv
 rw [EJ,aD]
 simp only [aZ,i7,bK,aV,bL]
 cases h:lX s
 ·rfl
 obtain ⟨h1,h2,h3⟩:=wY h
 have hn:=i8 h1
 simp only [aY,if_true]
 unfold selS
 by_cases hM:s.M=[]
 ·rw [if_pos (by rw [hM]; rfl),if_pos hM,List.append_nil]
 ·have hpos:0 < s.M.length:=List.length_pos_iff.2 hM
  rw [if_neg (by omega),if_neg hM]
  refine (OI s.M.length (fun i t=>t.length≤64 + 201 * i) (fun i t=>t ++ selM (if i=0 then 123 else 44) (s.M.drop i) ++ [125]) ?_ ?_ (by omega)).trans (by simp)
  ·intro i t hi ht
   right
   have hm:=h3 _ (fN hi)
   have hl:=FO hm
   have hm':=hm
   simp only [mOk,Bool.and_eq_true,decide_eq_true_eq] at hm'
   have hnl:=i8 hm'.1
   have hq:=CC (nth s.M i).Value
   rw [if_pos (by simp only; omega),bB (bO hi),dY hi]
   simp only [Dh _ (show (nth s.M i).Value.length≤100000000 by omega),aD]
   simp only [selM]
   rw [bF (show -9223372036854775808≤(i:Int) + 1∧_ by omega),show (i:Int) + 1=((i + 1:Nat):Int) by omega]
   have fin:∀ (b:UInt8) (y:Str),y=b :: matchS (nth s.M i)→(if i=0 then 123 else 44)=b→∃ a',(some (Sum.inl (((i + 1:Nat):Int),t ++ y)):Option ((Int × Str) ⊕ Str))=some (Sum.inl (((i + 1:Nat):Int),a'))∧a'.length≤64 + 201 * (i + 1) ∧
     a' ++ selM (if i + 1=0 then 123 else 44) (s.M.drop (i + 1)) ++ [125]=t ++ (if i=0 then 123 else 44) :: (matchS (nth s.M i) ++ selM 44 (s.M.drop (i + 1))) ++ [125]:=by
    intro b y hy hb
    refine ⟨_,rfl,?_,?_⟩
    ·rw [hy,List.length_append,List.length_cons]; omega
    ·rw [hy,hb,if_neg (by omega)]; simp
   by_cases h0:i=0
   ·rw [if_pos (by omega)]
    cases hnt:(nth s.M i).Not
    ·rw [a6,aP (by simp; omega),aP (by simp; omega),aP (by simp; omega),aP (by simp; omega)]
     exact fin 123 _ (by simp [matchS,hnt]) (if_pos h0)
    ·rw [aY,aP (by simp; omega),aP (by simp; omega),aP (by simp; omega),aP (by simp; omega)]
     exact fin 123 _ (by simp [matchS,hnt]) (if_pos h0)
   ·rw [if_neg (by omega)]
    cases hnt:(nth s.M i).Not
    ·rw [a6,aP (by simp; omega),aP (by simp; omega),aP (by simp; omega),aP (by simp; omega)]
     exact fin 44 _ (by simp [matchS,hnt]) (if_neg h0)
    ·rw [aY,aP (by simp; omega),aP (by simp; omega),aP (by simp; omega),aP (by simp; omega)]
     exact fin 44 _ (by simp [matchS,hnt]) (if_neg h0)
  ·intro t ht
   rw [if_neg (by simp only; omega)]
   rw [aP (by simp; omega)]
   simp [selM]
theorem KV:∀ (ms:List bI) (b:UInt8),(∀ m ∈ ms,mOk m=true)→(selM b ms).length≤201 * ms.length
 | [],b,_=>by simp [selM]
 | m :: ms,b,h=>by
  unfold selM
  have h1:=FO (h m (by simp))
  have h2:=KV ms 44 (fun x hx=>h x (by simp [hx]))
  simp only [List.length_cons,List.length_append]; omega
theorem Lq {s:cN} (h:lX s=true):(selS s).length≤2000:=by
 obtain ⟨h1,h2,h3⟩:=wY h
 have:=i8 h1
 have:=KV s.M 123 h3
 unfold selS
 split
 ·simp; omega
 ·simp only [List.length_append,List.length_singleton]; omega
theorem FN (v:Int):(printN v).length≤31:=by
 unfold printN
 split
 ·rename_i h
  have hv:=qS.1 h
  have:=NB (show v.natAbs≤9007199254740992 by omega)
  split
  ·simp only [List.length_cons]; omega
  ·omega
 ·simp
theorem H0 (k:Int):(signS k).length≤2:=by
 unfold signS
 repeat' split
 all_goals simp
def KL (x:bX):Str:=if jW x then condS x else []
theorem uC {x:bX} (h:jW x=true):lX x.S=true∧(1≤x.Op∧x.Op≤6)∧qV x.V=true:=by
 simp only [jW,Bool.and_eq_true,decide_eq_true_eq] at h
 exact ⟨h.1.1,h.1.2,h.2⟩
theorem HY {x:bX} (h:jW x=true):(condS x).length≤2100:=by
 obtain ⟨h1,_,_⟩:=uC h
 have:=Lq h1
 have:=FN x.V
 have:=H0 x.Op
 unfold condS
 simp only [List.length_append,List.length_cons]; omega
theorem SD {k:Int} (h:1≤k∧k≤6):gl1[k.toNat]?=some (signS k)∧([[62],[62,61],[60],[60,61],[61,61],[33,61]]:List Str)[(k - 1).toNat]?=some (signS k):=by
 have:k=1 ∨ k=2 ∨ k=3 ∨ k=4 ∨ k=5 ∨ k=6:=by omega
 rcases this with rfl | rfl | rfl | rfl | rfl | rfl <;> exact ⟨rfl,rfl⟩
theorem I6 (x:bX):sB x=some (KL x):=by
 unfold sB KL
 rw [CD,aD]
 simp only [aZ,i7,bK,bL]
 cases h:jW x
 ·rfl
 obtain ⟨h1,h2,h3⟩:=uC h
 have l1:=Lq h1
 have l2:=FN x.V
 have l3:=H0 x.Op
 simp only [aY,if_true]
 rw [K5,aD]
 unfold Kv
 rw [if_pos h1,aP (by simp; omega),iP (by omega) (SD h2).1,aP (by simp; omega),aP (by simp; omega),Kf,aD,aP (by simp; omega)]
 simp [condS]
theorem EC:∀ (j i d:Nat),i + j=5→d≤9007199254740992→(fZ (eC.drop i) d).length≤22 * j
 | 0,i,d,hi,_=>by
  have:i=5:=by omega
  subst this; simp [eC,fZ]
 | j + 1,i,d,hi,hd=>by
  obtain ⟨n,k,hu,hdr,hk,_⟩:=y4 i (by omega)
  rw [hdr]
  unfold fZ
  have hq:d / k≤9007199254740992:=Nat.le_trans (Nat.div_le_self d k) hd
  have hm:d % k≤9007199254740992:=Nat.le_trans (Nat.mod_le d k) hd
  have h1:=EC j (i + 1) (d % k) (by omega) hm
  have h2:=HU hq
  have hn:n.length≤2:=by
   have:i=0 ∨ i=1 ∨ i=2 ∨ i=3 ∨ i=4:=by omega
   rcases this with rfl | rfl | rfl | rfl | rfl <;> cases hu <;> decide
  rw [List.length_append]
  split
  ·rw [List.length_append]; omega
  ·simp only [List.length_nil]; omega
theorem oW (v:Int):(printD v).length≤110:=by
 unfold printD
 split
 ·rename_i h
  have hv:=kK.1 h
  split
  ·simp
  ·have:=EC 5 0 v.toNat rfl (by omega)
   rw [List.drop_zero] at this; omega
 ·simp
theorem tI {w:Str} (d:Int) (h:w.length≤10):(optS w d).length≤130:=by
 unfold optS
 have:=oW d
 split
 ·simp only [List.length_cons,List.length_append]; omega
 ·simp
theorem HZ {p:aQ} (h:cP p.1=true∧p.2.length≤64):p.1.length≤64∧(dH p.2).length≤130:=by
 have:=i8 h.1
 have:=CC p.2
 omega
theorem JQ:∀ (ps:List aQ) (b:Str),b.length≤10→(∀ p ∈ ps,cP p.1=true∧p.2.length≤64)→(labM b ps).length≤210 * ps.length
 | [],b,_,_=>by simp [labM]
 | p :: ps,b,hb,h=>by
  unfold labM
  have h1:=HZ (h p (by simp))
  have h2:=JQ ps [44] (by simp) (fun x hx=>h x (by simp [hx]))
  simp only [List.length_cons,List.length_append]; omega
theorem DX {l:List aQ} (h:iY l=true):l.length≤16∧∀ p ∈ l,cP p.1=true∧p.2.length≤64:=by
 have:=uR.1 h
 exact ⟨this.1,fun p hp=>⟨this.2.1 p hp,this.2.2.1 p hp⟩⟩
def Re:Str:=[32,108,97,98,101,108,115,32,123]
theorem MF {l:List aQ} (h:l ≠ []):labS l=labM Re l ++ [125]:=by
 unfold labS; rw [if_neg h]; rfl
def FE (r:aR):Str:=if eI r then ruleS r else []
theorem tX {r:aR} (h:eI r=true):cP r.Name=true∧jW r.E=true∧tmB r.For=true∧tmB r.Keep=true∧FB r.Labels:=by
 simp only [eI,Bool.and_eq_true,Bool.not_eq_true'] at h
 obtain ⟨⟨⟨⟨⟨h1,h2⟩,h3⟩,h4⟩,h5⟩,h6⟩:=h
 exact ⟨h1,h2,h3,h4,h5,h6⟩
theorem QQ {l:List aQ} (h:iY l=true):(labS l).length≤3400:=by
 obtain ⟨h1,h2⟩:=DX h
 by_cases h0:l=[]
 ·subst h0; simp [labS]
 ·rw [MF h0,List.length_append]
  have:=JQ l Re (by decide) h2
  simp only [List.length_singleton]; omega
theorem zF {r:aR} (h:eI r=true):(ruleS r).length≤6000:=by
 obtain ⟨h1,h2,h3,h4,h5⟩:=tX h
 have l1:=i8 h1
 have l2:=HY h2
 have l3:=tI (w:=kW) r.For (by decide)
 have l4:=tI (w:=jE) r.Keep (by decide)
 have l5:=QQ h5.1
 unfold ruleS
 have:m7.length=4:=rfl
 simp only [List.length_append,List.length_cons,List.length_nil]; omega
theorem vM (r:aR):mZ r=some (FE r):=by
 unfold mZ FE
 rw [xI,aD]
 simp only [aZ,i7,bK,aV,bL]
 cases h:eI r
 ·rfl
 obtain ⟨h1,h2,h3,h4,h5⟩:=tX h
 have l1:=i8 h1
 have l2:=HY h2
 have l3:=tI (w:=kW) r.For (by decide)
 have l4:=tI (w:=jE) r.Keep (by decide)
 have d1:=oW r.For
 have d2:=oW r.Keep
 simp only [aY,if_true]
 rw [aP (by simp; omega),aP (by simp; omega),I6,aD]
 have hE:KL r.E=condS r.E:=if_pos h2
 rw [hE,aP (by simp; omega)]
 generalize hA:(([114,117,108,101,32]:Str) ++ r.Name ++ [58,32] ++ condS r.E)=A
 have lA:A.length≤2200:=by rw [← hA]; simp only [List.length_append,List.length_cons,List.length_nil]; omega
 have jn:∀ (B:Str) (w w2:Str) (d:Int),w2=32 :: (w ++ [32])→w2.length≤10→B.length≤3000→(printD d).length≤110→(if 0 < d then aN vS (fun x9=>[.box [vS r.Name,vS r.E.S.Name,sl aF r.E.S.M,vI r.E.Op,vI r.E.V,vI r.For,vI r.Keep,sl aJ r.Labels]]) (lK d) fun x9=>
   gdM (w2.length + x9.length≤9223372036854775807) (gdM (B.length + (w2 ++ x9).length≤9223372036854775807) (bE (B ++ (w2 ++ x9)))) else bE B)=(some (Sum.inl (B ++ optS w d)):Option (Str ⊕ Str)):=by
  intro B w w2 d hw hl hB hd
  unfold optS
  by_cases h0:0 < d
  ·rw [if_pos h0,if_pos h0,xB,aD,aP (by omega),aP (by rw [List.length_append]; omega),hw]
   simp
  ·rw [if_neg h0,if_neg h0]; simp
 refine J9 (jn A kW [32,102,111,114,32] r.For rfl (by decide) (by omega) d1) ?_
 refine J9 (jn (A ++ optS kW r.For) jE [32,107,101,101,112,32] r.Keep rfl (by decide) (by rw [List.length_append]; omega) d2) ?_
 generalize hC:A ++ optS kW r.For ++ optS jE r.Keep=C
 have lC:C.length≤2600:=by rw [← hC]; simp only [List.length_append]; omega
 have hR:ruleS r=C ++ (labS r.Labels ++ [59]):=by
  rw [← hC,← hA]; unfold ruleS m7; simp
 rw [hR]
 obtain ⟨k1,k2⟩:=DX h5.1
 by_cases hL:r.Labels=[]
 ·rw [if_neg (by rw [hL]; decide),aP (by simp; omega),hL]; rfl
 ·have hpos:0 < r.Labels.length:=List.length_pos_iff.2 hL
  rw [if_pos (by omega),aP (by simp; omega),MF hL]
  refine (lJ r.Labels.length (fun i t=>t.length≤2700 + 210 * i) (fun i t=>t ++ labM (if i=0 then [] else [44]) (r.Labels.drop i) ++ [125,59]) ?_ ?_ (by simp; omega)).trans ?_
  ·intro i t hi ht
   right
   obtain ⟨p1,p2⟩:=HZ (k2 _ (fN hi))
   have pv:=(k2 _ (fN hi)).2
   rw [if_pos (by simp only; omega),bB (bO hi),dY hi]
   simp only [Dh _ (show (nth r.Labels i).Value.length≤100000000 by have:(nth r.Labels i).2.length≤64:=pv; omega),aD]
   simp only [labM]
   rw [bF (show -9223372036854775808≤(i:Int) + 1∧_ by omega),show (i:Int) + 1=((i + 1:Nat):Int) by omega]
   have fin:∀ (b:Str) (y:Str),y=t ++ (b ++ ((nth r.Labels i).1 ++ (61 :: dH (nth r.Labels i).2)))→(if i=0 then [] else [44])=b→b.length≤1→∃ a',(some (Sum.inl (y,((i + 1:Nat):Int))):Option ((Str × Int) ⊕ Str))=some (Sum.inl (a',((i + 1:Nat):Int)))∧a'.length≤2700 + 210 * (i + 1) ∧
     a' ++ labM (if i + 1=0 then [] else [44]) (r.Labels.drop (i + 1)) ++ [125,59]=t ++ ((if i=0 then [] else [44]) ++ ((nth r.Labels i).1 ++ (61 :: (dH (nth r.Labels i).2 ++ labM [44] (r.Labels.drop (i + 1)))))) ++ [125,59]:=by
    intro b y hy hb hbl
    refine ⟨_,rfl,?_,?_⟩
    ·rw [hy]; simp only [List.length_append,List.length_cons]; omega
    ·rw [hy,hb,if_neg (show ¬ i + 1=0 by omega)]; simp
   by_cases h0:i=0
   ·rw [if_neg (by omega),aP (by simp; omega),aP (by simp; omega),aP (by simp; omega)]
    exact fin [] _ (by simp) (if_pos h0) (by simp)
   ·rw [if_pos (by omega),aP (by simp; omega),aP (by simp; omega),aP (by simp; omega),aP (by simp; omega)]
    exact fin [44] _ (by simp) (if_neg h0) (by simp)
  ·intro t ht
   rw [if_neg (by simp only; omega),aP (by simp; omega),aP (by simp; omega)]
   simp [labM]
  ·rcases hl2:r.Labels with _ | ⟨p,ps⟩
   ·exact absurd hl2 hL
   ·simp [labM,Re]
theorem Rt {s:Str}{a:Nat}{l:List aL} (h:Lx s a l):l.length≤s.length∧∀ x ∈ l,x.S.length≤s.length:=by
 induction h with
 | nil=>exact ⟨Nat.le_refl _,fun _ h=>by cases h⟩
 | sp hc h ih=>
  simp only [List.length_cons]
  exact ⟨by omega,fun x hx=>by have:=ih.2 x hx; omega⟩
 | @run w t a l k hk hw h1 h2 h ih=>
  obtain ⟨c,w',rfl,_⟩:=hw
  simp only [List.length_cons,List.length_append]
  refine ⟨by omega,fun x hx=>?_⟩
  rcases List.mem_cons.1 hx with rfl | hx
  ·simp only [List.length_cons]; omega
  ·have:=ih.2 x hx; omega
 | @text v t a l h ih=>
  have hq:v.length + 2≤(dH v).length:=by
   have:=Ju v
   simp only [dH,List.length_cons,List.length_append,List.length_nil]; omega
  simp only [List.length_cons,List.length_append]
  refine ⟨by omega,fun x hx=>?_⟩
  rcases List.mem_cons.1 hx with rfl | hx
  ·simp only; omega
  ·have:=ih.2 x hx; omega
 | @sign w t a l hw h1 h ih=>
  obtain ⟨c,w',rfl,_⟩:=hw
  simp only [List.length_cons,List.length_append]
  refine ⟨by omega,fun x hx=>?_⟩
  rcases List.mem_cons.1 hx with rfl | hx
  ·simp only [List.length_cons]; omega
  ·have:=ih.2 x hx; omega
theorem Ra (l:List aL):tks l 0=l.map kv:=rfl
theorem Ql (s:cN) (h:s.M.length≤9223372036854775807):∃ b,u6 s=some b∧(b=true→s.M.length≤40):=by
 unfold u6
 simp only [aZ,aV,bL,jV]
 refine wB (fun x:Int × Int=>0≤x.2∧x.2≤(s.M.length:Int)) (fun x=>(s.M.length - x.2).toNat) (fun b=>b=true→s.M.length≤40) ?_ ⟨by simp,by simp⟩
 rintro ⟨a,j⟩ ⟨h0,h1⟩
 simp only at h0 h1 ⊢
 obtain ⟨i,rfl⟩:=Int.eq_ofNat_of_zero_le h0
 by_cases hi:i < s.M.length
 ·right
  rw [if_pos (by omega),bB (bO hi),bF (x:=(i:Int) + 1) (by omega)]
  exact ⟨_,rfl,⟨by simp only; omega,by simp only; omega⟩,by simp only; omega⟩
 ·left
  rw [if_neg (by omega)]
  refine ⟨_,rfl,fun hb=>?_⟩
  simp only [Bool.and_eq_true,decide_eq_true_eq] at hb
  omega
def BdR (r:aR):Prop:=r.Name.length≤9223372036854775807∧r.E.S.Name.length≤9223372036854775807∧r.E.S.M.length≤9223372036854775807∧(∀ m ∈ r.E.S.M,m.Name.length≤9223372036854775807)∧r.Labels.length≤9223372036854775807∧∀ p ∈ r.Labels,p.1.length≤9223372036854775807
theorem Vu (r:aR) (h:BdR r):∃ b,rJ r=some b∧(b=true→G7 r):=by
 obtain ⟨h1,h2,h3,h4,h5,h6⟩:=h
 unfold rJ
 obtain ⟨b,hb,hbm⟩:=Ql r.E.S h3
 rw [hb,Jp _ h5]
 simp only [aZ,aD,aV,bL]
 split
 ·cases b
  ·exact ⟨_,rfl,fun h=>by cases h⟩
  ·refine ⟨_,rfl,fun h=>⟨h1,⟨h2,h3,h4⟩,?_,h6⟩⟩
   have:=Qv h; omega
 ·exact ⟨_,rfl,fun h=>by cases h⟩
theorem O6 {r:aR} (h:eI r=true):G7 r:=by
 obtain ⟨h1,h2,_,_,h5⟩:=tX h
 obtain ⟨k1,_,_⟩:=uC h2
 obtain ⟨s1,s2,s3⟩:=wY k1
 obtain ⟨l1,l2⟩:=DX h5.1
 have n1:=i8 h1
 have n2:=i8 s1
 refine ⟨by omega,⟨by omega,by omega,fun m hm=>?_⟩,by omega,fun p hp=>?_⟩
 ·have:=s3 m hm
  simp only [mOk,Bool.and_eq_true] at this
  have:=i8 this.1; omega
 ·have:=i8 (l2 p hp).1; omega
theorem Dk {r:aR} (h:eI r=true):FE r=ruleS r:=by unfold FE; rw [if_pos h]
theorem all_nil:oZ []=some ([],0,0):=F8 [] (by simp) (Lx.nil 0) (by simp)
theorem Hh {a b:Int} (h0:0≤b) (h:b≤9223372036854775807):0≤Fj .i64 a b∧Fj .i64 a b≤b:=by
 unfold Fj
 have e:(BitVec.ofInt 64 b).toNat=b.toNat:=by rw [BitVec.toNat_ofInt]; omega
 have h1:(BitVec.ofInt 64 a &&& BitVec.ofInt 64 b).toNat≤b.toNat:=by rw [BitVec.toNat_and,e]; exact Nat.and_le_right
 have h2:IntKind.i64.wrap ((BitVec.ofInt 64 a &&& BitVec.ofInt 64 b).toNat:Int)=((BitVec.ofInt 64 a &&& BitVec.ofInt 64 b).toNat:Int):=bF (by omega)
 show 0≤IntKind.i64.wrap ((BitVec.ofInt 64 a &&& BitVec.ofInt 64 b).toNat:Int)∧IntKind.i64.wrap ((BitVec.ofInt 64 a &&& BitVec.ofInt 64 b).toNat:Int)≤b
 rw [h2]; omega
end Go.Proofs.YthgenmkengbmmaaGreatDoor.AM
namespace Go.Proofs.YthgenmkengbmmaaGreatDoor.AM
open Go
def pJ (f:List aI) (n:Str):Bool:=f.any fun g=>decide (g.Name=n)
def tL (l:List aR) (n:Str):Bool:=l.any fun r=>decide (r.Name=n)
def jI {α:Type} (p:List α→α→Bool):List α→List α→Bool
 | _,[]=>true
 | a,x :: l=>p a x && jI p (a ++ [x]) l
def lM (l:List aR):Bool:=jI (fun a r=>eI r && !tL a r.Name) [] l
def dN (g:aI):Bool:=cP g.Name && tmB g.Interval && !decide (g.Interval=0) && !decide (g.Offset < 0) && !decide (g.Interval≤g.Offset) && decide (g.Rules.length≤16) && lM g.Rules
def mD (f:List aI):Bool:=jI (fun a g=>dN g && !pJ a g.Name) [] f
def dE (f:List aI):Bool:=decide (f.length≤16) && mD f
theorem M2 {α:Type} [Inhabited α] (p:List α→α→Bool) {l:List α}{i:Nat} (h:i < l.length):jI p (l.take i) (l.drop i)=(p (l.take i) (nth l i) && jI p (l.take (i + 1)) (l.drop (i + 1))):=by
 have e:=bO h
 rw [List.drop_eq_getElem_cons h]
 have e2:l[i]=nth l i:=by rw [List.getElem?_eq_getElem h] at e; exact Option.some.inj e
 rw [e2]
 have e3:l.take (i + 1)=l.take i ++ [nth l i]:=by rw [List.take_succ,e]; rfl
 rw [e3]; rfl
theorem Qk {α:Type} [Inhabited α] (p:α→Bool) {l:List α}{i:Nat} (h:i < l.length):(l.drop i).any p=(p (nth l i) || (l.drop (i + 1)).any p):=by
 have e:=bO h
 rw [List.drop_eq_getElem_cons h]
 have e2:l[i]=nth l i:=by rw [List.getElem?_eq_getElem h] at e; exact Option.some.inj e
 rw [e2,List.any_cons]
theorem zA (l:List aR) (n:Str) (h:l.length≤9223372036854775807):jP l n=some (tL l n):=by
 unfold jP
 simp only [aZ]
 refine (fV l.length (fun i=>(l.drop i).any fun r=>decide (r.Name=n)) ?_ ?_).trans (by rfl)
 ·intro i hi
  simp only [aV,bB (bO hi)]
  rw [if_pos (by omega),Qk _ hi,bF (by omega)]
  by_cases hn:(nth l i).Name=n
  ·left; simp [hn]
  ·right; simp [hn]
 ·simp only [aV]
  rw [if_neg (by omega)]
  simp
theorem xL (l:List aI) (n:Str) (h:l.length≤9223372036854775807):jZ l n=some (pJ l n):=by
 unfold jZ
 simp only [aZ]
 refine (fV l.length (fun i=>(l.drop i).any fun r=>decide (r.Name=n)) ?_ ?_).trans (by rfl)
 ·intro i hi
  simp only [aV,bB (bO hi)]
  rw [if_pos (by omega),Qk _ hi,bF (by omega)]
  by_cases hn:(nth l i).Name=n
  ·left; simp [hn]
  ·right; simp [hn]
 ·simp only [aV]
  rw [if_neg (by omega)]
  simp
theorem La (g:aI):uY g=some (dN g):=by
 unfold uY dN
 simp only [iU,uE,aD,aZ,bL,bK,i7]
 cases cP g.Name
 ·rfl
 cases tmB g.Interval
 ·rfl
 simp only [aY,aV,Bool.true_and]
 by_cases h1:g.Interval=0
 ·rw [if_pos h1,decide_eq_true h1]; rfl
 rw [if_neg h1,decide_eq_false h1]
 by_cases h2:g.Offset < 0
 ·rw [if_pos h2,decide_eq_true h2]; rfl
 rw [if_neg h2,decide_eq_false h2]
 by_cases h3:g.Interval≤g.Offset
 ·rw [if_pos h3,decide_eq_true h3]; rfl
 rw [if_neg h3,decide_eq_false h3]
 by_cases h4:g.Rules.length≤16
 ·rw [if_neg (by omega),decide_eq_true h4]
  refine (fV g.Rules.length (fun i=>jI (fun a r=>eI r && !tL a r.Name) (g.Rules.take i) (g.Rules.drop i)) ?_ ?_).trans (by simp [lM])
  ·intro i hi
   simp only [bB (bO hi),xI,aD]
   rw [if_pos (by omega),M2 _ hi,aP (by omega),bF (by omega),Int.toNat_natCast,Int.toNat_zero,List.drop_zero,zA _ _ (by rw [List.length_take]; omega),aD]
   cases eI (nth g.Rules i)
   ·left; rfl
   cases tL (g.Rules.take i) (nth g.Rules i).Name
   ·right; simp
   ·left; rfl
  ·rw [if_neg (by omega)]
   simp [jI]
 ·rw [if_pos (by omega),decide_eq_false h4]; rfl
theorem fU (f:List aI):fQ f=some (dE f):=by
 unfold fQ dE
 simp only [aZ,bL,bK,i7,aV]
 by_cases h4:f.length≤16
 ·rw [if_neg (by omega),decide_eq_true h4]
  refine (fV f.length (fun i=>jI (fun a g=>dN g && !pJ a g.Name) (f.take i) (f.drop i)) ?_ ?_).trans (by simp [mD])
  ·intro i hi
   simp only [bB (bO hi),La,aD]
   rw [if_pos (by omega),M2 _ hi,aP (by omega),bF (by omega),Int.toNat_natCast,Int.toNat_zero,List.drop_zero,xL _ _ (by rw [List.length_take]; omega),aD]
   cases dN (nth f i)
   ·left; rfl
   cases pJ (f.take i) (nth f i).Name
   ·right; simp
   ·left; rfl
  ·rw [if_neg (by omega)]
   simp [jI]
 ·rw [if_pos (by omega),decide_eq_false h4]; rfl
def BdF (f:List aI):Prop:=f.length≤9223372036854775807∧∀ g ∈ f,g.Name.length≤9223372036854775807∧g.Rules.length≤9223372036854775807∧∀ r ∈ g.Rules,BdR r
def RH (g:aI):Prop:=g.Name.length≤200∧g.Rules.length≤20∧∀ r ∈ g.Rules,G7 r
def Tl (f:List aI):Prop:=f.length≤20∧∀ g ∈ f,RH g
theorem Jc (f:List aI) (h:BdF f):∃ b,mL f=some b∧(b=true→Tl f):=by
 obtain ⟨h1,h2⟩:=h
 unfold mL
 simp only [aZ,aV,bK,bL]
 refine wB (fun x:Int=>(0≤x∧x≤(f.length:Int))∧∀ j,j < x.toNat→RH (nth f j)) (fun x=>(f.length - x).toNat) (fun b=>b=true→Tl f) ?_ ⟨⟨by simp,by simp⟩,fun j hj=>by simp at hj⟩
 rintro x ⟨⟨h0,hl⟩,ha⟩
 obtain ⟨i,rfl⟩:=Int.eq_ofNat_of_zero_le h0
 by_cases hi:i < f.length
 ·rw [if_pos (by omega)]
  obtain ⟨g1,g2,g3⟩:=h2 _ (fN hi)
  generalize hg:nth f i=g at *
  have key:=wB (ph:=fun (x4:Int)=>[(0,sl aC f),(3,vI (i:Int)),(4,vI x4)]) (ob:=fun (_:Int)=>([]:List Obj)) (step:=fun (x4:Int)=>bS f (i:Int) fun x5=>if x4 < (x5.Rules.length:Int) then bS x5.Rules x4 fun x8=>aN vB (fun x9=>[]) (rJ x8) fun x9=>aG x9 (bE (wI (x4 + 1))) (a8 (a8 (some false))) else a8 (if (20:Int) < (x5.Rules.length:Int) then a8 (some false) else if (200:Int) < (x5.Name.length:Int) then a8 (some false) else bE (wI ((i:Int) + 1))))
   (fun x:Int=>(0≤x∧x≤(g.Rules.length:Int))∧∀ j,j < x.toNat→G7 (nth g.Rules j)) (fun x=>(g.Rules.length - x).toNat) (fun r:Int ⊕ Bool=>r=.inr false ∨ (r=.inl ((i + 1:Nat):Int)∧RH g)) ?_ (s:=0) ⟨⟨by simp,by simp⟩,fun j hj=>by simp at hj⟩
  ·obtain ⟨r,e,hr⟩:=key
   rcases hr with rfl | ⟨rfl,hr⟩
   ·left; exact ⟨false,e,fun h=>by cases h⟩
   ·right
    refine ⟨_,e,⟨⟨by omega,by omega⟩,fun j hj=>?_⟩,by omega⟩
    rcases Nat.lt_or_ge j i with hj2 | hj2
    ·exact ha j (by omega)
    ·have:j=i:=by omega
     subst this; rw [hg]; exact hr
  ·rintro y ⟨⟨k0,kl⟩,ka⟩
   obtain ⟨k,rfl⟩:=Int.eq_ofNat_of_zero_le k0
   simp only [bB (bO hi),hg]
   by_cases hk:k < g.Rules.length
   ·rw [if_pos (by omega),bB (bO hk)]
    obtain ⟨b,hb,hs⟩:=Vu _ (g3 _ (fN hk))
    rw [hb,aD]
    cases b
    ·left; exact ⟨_,rfl,.inl rfl⟩
    ·right
     rw [aY,bF (by omega),xS]
     refine ⟨_,rfl,⟨⟨by omega,by omega⟩,fun j hj=>?_⟩,by omega⟩
     rcases Nat.lt_or_ge j k with hj2 | hj2
     ·exact ka j (by omega)
     ·have:j=k:=by omega
      subst this; exact hs rfl
   ·left
    rw [if_neg (by omega)]
    by_cases q1:(20:Int) < (g.Rules.length:Int)
    ·rw [if_pos q1]; exact ⟨_,rfl,.inl rfl⟩
    rw [if_neg q1]
    by_cases q2:(200:Int) < (g.Name.length:Int)
    ·rw [if_pos q2]; exact ⟨_,rfl,.inl rfl⟩
    rw [if_neg q2,bF (by omega)]
    refine ⟨_,rfl,.inr ⟨by simp,by omega,by omega,fun r hr=>?_⟩⟩
    obtain ⟨j,hj,e⟩:=List.getElem_of_mem hr
    have:=ka j (by omega)
    rwa [show nth g.Rules j=r from by have:=bO hj; rw [List.getElem?_eq_getElem hj,e] at this; exact (Option.some.inj this).symm] at this
 ·left
  rw [if_neg (by omega)]
  refine ⟨_,rfl,fun hb=>⟨by simp only [decide_eq_true_eq] at hb; omega,fun g hg=>?_⟩⟩
  obtain ⟨j,hj,e⟩:=List.getElem_of_mem hg
  have:=ha j (by omega)
  rwa [show nth f j=g from by have:=bO hj; rw [List.getElem?_eq_getElem hj,e] at this; exact (Option.some.inj this).symm] at this
def OkS (a:List aI):Prop:=a.length≤9223372036854775807∧∀ g ∈ a,g.Rules.length≤9223372036854775807∧∀ r ∈ g.Rules,G7 r
theorem p8 (a b:List aI) (h:OkS a):lP a b=some (decide (a=b)):=by
 obtain ⟨h1,h2⟩:=h
 unfold lP
 simp only [aZ,bK,aV,bL,i7]
 by_cases hl:(a.length:Int)=b.length
 ·rw [if_pos hl]
  have hl:a.length=b.length:=by omega
  refine (fV a.length (fun i=>decide (a.drop i=b.drop i)) ?_ ?_).trans (by simp)
  ·intro i hi
   have hi2:i < b.length:=by omega
   rw [if_pos (by omega),bB (bO hi),bB (bO hi2),dY hi,dY hi2]
   obtain ⟨g1,g2⟩:=h2 _ (fN hi)
   generalize nth a i=x at *
   generalize nth b i=y at *
   by_cases q1:x.Name=y.Name
   ·rw [if_pos q1]
    by_cases q2:x.Interval=y.Interval
    ·rw [if_pos q2]
     by_cases q3:x.Offset=y.Offset
     ·rw [if_pos q3]
      by_cases q4:(x.Rules.length:Int)=y.Rules.length
      ·rw [if_pos q4]
       have q4:x.Rules.length=y.Rules.length:=by omega
       have e:=fV (ph:=fun (x15:Int)=>[(0,sl aC a),(1,sl aC b),(5,vI (i:Int)),(6,vI x15)]) (ob:=fun (_:Int)=>([]:List Obj)) (step:=fun (x15:Int)=>if x15 < (x.Rules.length:Int) then bS x.Rules x15 fun x18=>bS y.Rules x15 fun x19=>aN vB (fun x20=>[]) (oX x18 x19) fun x20=>aG x20 (bE (wI (x15 + 1))) (a8 (a8 (some false))) else a8 (bE (wI ((i:Int) + 1)))) x.Rules.length (fun k=>if x.Rules.drop k=y.Rules.drop k then (Sum.inl ((i + 1:Nat):Int):Int ⊕ Bool) else .inr false) (by
        intro k hk
        have hk2:k < y.Rules.length:=by omega
        rw [if_pos (by omega),bB (bO hk),bB (bO hk2),I0 _ _ (g2 _ (fN hk)),aD,aV,dY hk,dY hk2]
        by_cases e:nth x.Rules k=nth y.Rules k
        ·right; rw [if_pos e,e,bF (by omega)]; exact ⟨by simp,by simp⟩
        ·left; rw [if_neg e]; simp [e]) (by
        rw [if_neg (by omega),bF (by omega),if_pos (by rw [List.drop_eq_nil_of_le (Nat.le_refl _),List.drop_eq_nil_of_le (by omega)])]; simp)
       simp only [List.drop_zero] at e
       rw [e]
       have ex:x.Rules=y.Rules ↔ x=y:=⟨fun h=>(by cases x; cases y; simp_all),fun h=>by rw [h]⟩
       by_cases e2:x.Rules=y.Rules
       ·right; rw [if_pos e2,ex.1 e2]; exact ⟨rfl,by simp⟩
       ·left; rw [if_neg e2]
        have:x ≠ y:=fun h=>e2 (ex.2 h)
        simp [this]
      ·left; rw [if_neg q4]
       have:x ≠ y:=fun h=>q4 (by rw [h])
       simp [this]
     ·left; rw [if_neg q3]
      have:x ≠ y:=fun h=>q3 (by rw [h])
      simp [this]
    ·left; rw [if_neg q2]
     have:x ≠ y:=fun h=>q2 (by rw [h])
     simp [this]
   ·left; rw [if_neg q1]
    have:x ≠ y:=fun h=>q1 (by rw [h])
    simp [this]
  ·rw [if_neg (by omega),List.drop_eq_nil_of_le (Nat.le_refl _),List.drop_eq_nil_of_le (by omega)]
   rfl
 ·rw [if_neg hl]
  have:a ≠ b:=fun h=>hl (by rw [h])
  simp [this]
def jN:Str:=[103,114,111,117,112]
def j8:Str:=[101,118,101,114,121]
def nN:Str:=[111,102,102,115,101,116]
def rlS:List aR→Str
 | []=>[]
 | r :: l=>32 :: 32 :: (ruleS r ++ (10 :: rlS l))
def groupS (g:aI):Str:=jN ++ (32 :: (g.Name ++ (32 :: (j8 ++ (32 :: (printD g.Interval ++ (optS nN g.Offset ++ (32 :: 123 :: 10 :: (rlS g.Rules ++ [125,10])))))))))
def fileS:List aI→Str
 | []=>[]
 | g :: f=>groupS g ++ fileS f
def uP (f:List aI):Str:=if dE f then fileS f else []
theorem KN:∀ (a:List aR) (r:aR),rlS (a ++ [r])=rlS a ++ (32 :: 32 :: (ruleS r ++ [10]))
 | [],r=>rfl
 | x :: a,r=>by
  simp only [List.cons_append,rlS,KN a r,List.append_assoc]
theorem u0:∀ (a b:List aI),fileS (a ++ b)=fileS a ++ fileS b
 | [],b=>rfl
 | x :: a,b=>by simp only [List.cons_append,fileS,u0 a b,List.append_assoc]
theorem Fa {α:Type}{p:List α→α→Bool}:∀ {l a:List α},jI p a l=true→∀ x ∈ l,∃ b,p b x=true
 | [],_,_,x,hx=>by cases hx
 | y :: l,a,h,x,hx=>by
  simp only [jI,Bool.and_eq_true] at h
  rcases List.mem_cons.1 hx with rfl | hx
  ·exact ⟨_,h.1⟩
  ·exact Fa h.2 x hx
theorem fR {g:aI} (h:dN g=true):cP g.Name=true∧tmB g.Interval=true∧g.Interval ≠ 0∧0≤g.Offset∧g.Offset < g.Interval∧g.Rules.length≤16∧lM g.Rules=true∧∀ r ∈ g.Rules,eI r=true:=by
 unfold dN at h
 simp only [Bool.and_eq_true,Bool.not_eq_true',decide_eq_true_eq,decide_eq_false_iff_not] at h
 obtain ⟨⟨⟨⟨⟨⟨h1,h2⟩,h3⟩,h4⟩,h5⟩,h6⟩,h7⟩:=h
 refine ⟨h1,h2,h3,by omega,by omega,h6,h7,fun r hr=>?_⟩
 obtain ⟨b,hb⟩:=Fa h7 r hr
 simp only [Bool.and_eq_true] at hb
 exact hb.1
theorem cZ {f:List aI} (h:dE f=true):f.length≤16∧mD f=true∧∀ g ∈ f,dN g=true:=by
 unfold dE at h
 simp only [Bool.and_eq_true,decide_eq_true_eq] at h
 refine ⟨h.1,h.2,fun g hg=>?_⟩
 obtain ⟨b,hb⟩:=Fa h.2 g hg
 simp only [Bool.and_eq_true] at hb
 exact hb.1
theorem HD:∀ {l:List aR},(∀ r ∈ l,eI r=true)→(rlS l).length≤6003 * l.length
 | [],_=>by simp [rlS]
 | r :: l,h=>by
  have h1:=zF (h r (by simp))
  have h2:=HD (l:=l) fun x hx=>h x (by simp [hx])
  simp only [rlS,List.length_cons,List.length_append]
  omega
theorem Ns {g:aI} (h:dN g=true):(groupS g).length≤100000:=by
 obtain ⟨h1,_,_,_,_,h6,_,h8⟩:=fR h
 have l1:=i8 h1
 have l2:=oW g.Interval
 have l3:=tI (w:=nN) g.Offset (by decide)
 have l4:=HD h8
 simp only [groupS,jN,j8,List.length_append,List.length_cons,List.length_nil]
 omega
theorem oK:∀ {f:List aI},(∀ g ∈ f,dN g=true)→(fileS f).length≤100000 * f.length
 | [],_=>by simp [fileS]
 | g :: f,h=>by
  have h1:=Ns (h g (by simp))
  have h2:=oK (f:=f) fun x hx=>h x (by simp [hx])
  simp only [fileS,List.length_append,List.length_cons]
  omega
theorem n8 (s:Str) (l:List Int) (h:l.length + s.length≤140737488355328):bR s l=some ((s.length:Int),(),l ++ d8 s):=by
 unfold bR ES
 simp only [a7,fY,aZ,bL]
 rw [aP (by rw [lU]; omega)]
theorem kP (a b:Str):d8 (a ++ b)=d8 a ++ d8 b:=by simp [d8]
theorem LS (s:Str):Dj (d8 s)=some s:=by
 unfold Dj
 rw [aP (by
  intro x hx
  simp only [d8,List.mem_map] at hx
  obtain ⟨b,_,rfl⟩:=hx
  have:=b.toNat_lt
  omega),wL]; rfl
theorem F4 {γ:Type}{ph:List Int × Int→List (Nat × AV)}{ob:List Int × Int→List Obj}{step:List Int × Int→Option (List Int × Int ⊕ γ)} (rs:List aR) (pre:Str) (g:List Int→γ)
  (hb:∀ r ∈ rs,eI r=true) (hl:rs.length≤16) (hp:pre.length≤10000000)
  (h1:∀ k (acc:List Int),k < rs.length→acc.length≤100000000→step (acc,(k:Int))=some (.inl (acc ++ d8 (32 :: 32 :: (ruleS (nth rs k) ++ [10])),((k + 1:Nat):Int))))
  (h2:∀ acc:List Int,acc.length≤100000000→step (acc,(rs.length:Int))=some (.inr (g acc))):bU ph ob step (d8 pre,0)=some (g (d8 (pre ++ rlS rs))):=by
 have bd:∀ k,(d8 (pre ++ rlS (rs.take k))).length≤100000000:=fun k=>by
  have:=HD (l:=rs.take k) fun r hr=>hb r (List.mem_of_mem_take hr)
  rw [List.length_take] at this
  rw [lU,List.length_append]; omega
 refine (lJ rs.length (fun k a=>a=d8 (pre ++ rlS (rs.take k))) (fun _ _=>g (d8 (pre ++ rlS rs))) ?_ ?_ (by simp [rlS])).trans rfl
 ·rintro k a hk rfl
  right
  refine ⟨_,h1 k _ hk (bd k),?_,rfl⟩
  rw [List.take_succ,bO hk,Option.toList,KN]
  simp only [kP,List.append_assoc]
 ·rintro a rfl
  have:=h2 _ (bd rs.length)
  rw [List.take_length] at this ⊢
  exact this
theorem iW (f:List aI):fI f=some (uP f):=by
 unfold fI uP
 rw [fU,aD]
 simp only [aZ,i7,bK,aV,bL]
 cases h:dE f
 ·rfl
 obtain ⟨h1,_,h2⟩:=cZ h
 simp only [aY,if_true,Qw]
 have bd:∀ i,(fileS (f.take i)).length≤1600000:=fun i=>by
  have:=oK (f:=f.take i) fun r hr=>h2 r (List.mem_of_mem_take hr)
  rw [List.length_take] at this
  omega
 refine (lJ f.length (fun i a=>a=d8 (fileS (f.take i))) (fun _ _=>fileS f) ?_ ?_ (by simp [fileS,d8])).trans rfl
 ·rintro i a hi rfl
  right
  obtain ⟨g1,g2,g3,g4,g5,g6,g7,g8⟩:=fR (h2 _ (fN hi))
  have ht:f.take (i + 1)=f.take i ++ [nth f i]:=by rw [List.take_succ,bO hi]; rfl
  have b1:=bd i
  rw [if_pos (by simp only; omega),bB (bO hi),ht,u0]
  generalize nth f i=g at *
  generalize fileS (f.take i)=T at *
  have l1:=i8 g1
  have d1:=oW g.Interval
  have d2:=oW g.Offset
  rw [aP (by simp; omega),aP (by simp; omega),xB,aD,aP (by simp; omega),n8 _ _ (by rw [lU]; simp; omega),a7,← kP]
  refine ⟨d8 (T ++ fileS [g]),?_,rfl,rfl⟩
  have fin:∀ (pre:Str),pre=T ++ (jN ++ (32 :: (g.Name ++ (32 :: (j8 ++ (32 :: (printD g.Interval ++ (optS nN g.Offset ++ [32,123,10]))))))))→d8 (pre ++ rlS g.Rules ++ [125,10])=d8 (T ++ fileS [g]):=by
   rintro pre rfl
   simp [fileS,groupS]
  have b2:∀ (pre:Str),pre=T ++ (jN ++ (32 :: (g.Name ++ (32 :: (j8 ++ (32 :: (printD g.Interval ++ (optS nN g.Offset ++ [32,123,10]))))))))→pre.length≤10000000:=by
   rintro pre rfl
   have l3:=tI (w:=nN) g.Offset (by decide)
   simp only [jN,j8,List.length_append,List.length_cons,List.length_nil]
   omega
  by_cases h0:0 < g.Offset
  ·rw [if_pos h0,xB,aD,aP (by simp; omega),n8 _ _ (by rw [lU]; simp; omega),a7]
   simp only
   rw [← kP,n8 _ _ (by rw [lU]; simp; omega),a7]
   simp only
   rw [← kP]
   refine (F4 g.Rules _ (fun acc=>Sum.inl (acc ++ d8 [125,10],((i + 1:Nat):Int))) g8 g6 (b2 _ ?_) ?_ ?_).trans ?_
   ·simp [jN,j8,optS,nN,h0]
   ·intro k acc hk ha
    have hr:=g8 _ (fN hk)
    have l5:=zF hr
    try simp only
    rw [if_pos (by omega),bB (bO hk),vM,aD,Dk hr,aP (by simp; omega),aP (by simp; omega),n8 _ _ (by simp; omega),a7,bF (by omega),xS]
    simp
   ·intro acc ha
    try simp only
    rw [if_neg (by omega),n8 _ _ (by simp; omega),a7,bF (by omega)]
    simp
   ·try simp only
    rw [← kP,fin]
    simp [jN,j8,optS,nN,h0]
  ·rw [if_neg h0,n8 _ _ (by rw [lU]; simp; omega),a7]
   simp only
   rw [← kP]
   refine (F4 g.Rules _ (fun acc=>Sum.inl (acc ++ d8 [125,10],((i + 1:Nat):Int))) g8 g6 (b2 _ ?_) ?_ ?_).trans ?_
   ·simp [jN,j8,optS,nN,h0]
   ·intro k acc hk ha
    have hr:=g8 _ (fN hk)
    have l5:=zF hr
    try simp only
    rw [if_pos (by omega),bB (bO hk),vM,aD,Dk hr,aP (by simp; omega),aP (by simp; omega),n8 _ _ (by simp; omega),a7,bF (by omega),xS]
    simp
   ·intro acc ha
    try simp only
    rw [if_neg (by omega),n8 _ _ (by simp; omega),a7,bF (by omega)]
    simp
   ·try simp only
    rw [← kP,fin]
    simp [jN,j8,optS,nN,h0]
 ·rintro a rfl
  rw [if_neg (by simp only; omega),LS,a7,List.take_length]
  rfl
def sk:Bool→Str→Str
 | _,[]=>[]
 | true,c :: t=>if c=10 then sk false t else sk true t
 | false,c :: t=>if isW c then sk false t else if c=35 then sk true t else c :: t
def nlL (t:Str):Nat:=(t.takeWhile fun c=>!decide (c=10)).length
theorem Fm (c:UInt8) (t:Str):nlL (c :: t)=if c=10 then 0 else nlL t + 1:=by
 unfold nlL
 rw [List.takeWhile_cons]
 by_cases h:c=10
 ·simp [h]
 ·simp [h]
theorem MI:∀ t:Str,sk true t=sk false (t.drop (nlL t))
 | []=>rfl
 | c :: t=>by
  rw [Fm]
  by_cases h:c=10
  ·subst h; simp [sk,isW]
  ·rw [if_neg h,List.drop_succ_cons,← MI t]; simp [sk,h]
theorem Bf:∀ (b:Bool) (t:Str),∃ p,t=p ++ sk b t
 | _,[]=>⟨[],by simp [sk]⟩
 | true,c :: t=>by
  obtain ⟨p,hp⟩:=Bf false t
  obtain ⟨q,hq⟩:=Bf true t
  simp only [sk]
  split
  ·exact ⟨c :: p,by rw [List.cons_append,← hp]⟩
  ·exact ⟨c :: q,by rw [List.cons_append,← hq]⟩
 | false,c :: t=>by
  obtain ⟨p,hp⟩:=Bf false t
  obtain ⟨q,hq⟩:=Bf true t
  simp only [sk]
  split
  ·exact ⟨c :: p,by rw [List.cons_append,← hp]⟩
  ·split
   ·exact ⟨c :: q,by rw [List.cons_append,← hq]⟩
   ·exact ⟨[],rfl⟩
theorem xQ (b:Bool) (t:Str):(sk b t).length≤t.length:=by
 obtain ⟨p,hp⟩:=Bf b t
 have:=congrArg List.length hp
 rw [List.length_append] at this; omega
theorem GS (b:Bool) (t:Str):t.drop (t.length - (sk b t).length)=sk b t:=by
 obtain ⟨p,hp⟩:=Bf b t
 have h1:=congrArg List.length hp
 rw [List.length_append] at h1
 rw [h1,Nat.add_sub_cancel]
 generalize sk b t=u at *
 subst hp
 rw [List.drop_left]
def Oc (u:Str):Prop:=∀ c r,u=c :: r→isW c=false∧c ≠ 35
theorem tB:∀ (b:Bool) (t:Str),Oc (sk b t)
 | _,[]=>fun c r h=>by cases h
 | true,d :: t=>by
  simp only [sk]; split
  ·exact tB false t
  ·exact tB true t
 | false,d :: t=>by
  simp only [sk]; split
  ·exact tB false t
  ·split
   ·exact tB true t
   ·rename_i h1 h2
    intro c r h; cases h
    exact ⟨by simpa using h1,h2⟩
theorem RZ {u:Str} (h:Oc u):sk false u=u:=by
 rcases u with _ | ⟨c,r⟩
 ·rfl
 ·obtain ⟨h1,h2⟩:=h c r rfl
  simp [sk,h1,h2]
theorem O3 {s:Str}{a:Nat} (h:s[a]?=some 35) (hs:s.length≤100000000):dV s (a:Int)=dV s ((a + nlL (s.drop a):Nat):Int):=by
 have ha:=(List.getElem?_eq_some_iff.1 h).1
 refine wP ?_
 simp only [aZ,aV,bK]
 rw [if_pos (by omega),bB h,yK,aD,show isW 35=false from by decide,a6,if_pos (by decide)]
 refine (eN (fun x:Int=>(a:Int)≤x∧x≤s.length) (fun x=>s.length - x.toNat) (fun x=>Sum.inl (x + (nlL (s.drop x.toNat):Int))) ?_ ⟨by omega,by omega⟩).trans (by simp)
 rintro x ⟨h0,h1⟩
 obtain ⟨n,rfl⟩:=Int.eq_ofNat_of_zero_le (show 0≤x by omega)
 simp only [Int.toNat_natCast]
 by_cases hl:n < s.length
 ·have hk:=gR (nth s n) 10 (by decide)
  simp only [Int.cast_ofNat_Int] at hk
  rw [if_pos (by omega),bB (bO hl),dY hl,Fm]
  by_cases h10:nth s n=10
  ·left; rw [if_pos (hk.2 h10),if_pos h10]; simp
  ·right; rw [if_neg (fun e=>h10 (hk.1 e)),if_neg h10,bF (by omega)]
   refine ⟨_,rfl,⟨by omega,by omega⟩,by omega,?_⟩
   rw [show ((n:Int) + 1).toNat=n + 1 by omega]; congr 1; omega
 ·left; rw [if_neg (by omega),List.drop_eq_nil_of_le (by omega)]; simp [nlL]
theorem SL (s:Str) (hs:s.length≤100000000):∀ (n a:Nat),s.length - a=n→a≤s.length→dV s (a:Int)=some ((s.length - (sk false (s.drop a)).length:Nat):Int):=by
 intro n
 induction n using Nat.strongRecOn with
 | ind n ih=>
  intro a hn ha
  rcases Nat.lt_or_ge a s.length with hl | hl
  ·have hg:=bO hl
   cases hw:isW (nth s a)
   ·by_cases h35:nth s a=35
    ·rw [h35] at hg
     have hd:s.drop a=35 :: s.drop (a + 1):=by rw [dY hl,h35]
     have hp:1≤nlL (s.drop a):=by rw [hd,Fm,if_neg (by decide)]; omega
     have hq:nlL (s.drop a)≤s.length - a:=by
      have:=(List.takeWhile_sublist (l:=s.drop a) fun c=>!decide (c=10)).length_le
      rw [List.length_drop] at this
      exact this
     rw [O3 hg hs,ih _ (show s.length - (a + nlL (s.drop a)) < n by omega) _ rfl (by omega),← List.drop_drop,← MI,hd]
     simp [sk,isW]
    ·rw [zL hg hw h35,dY hl]
     simp only [sk,hw,h35,if_false,Bool.false_eq_true]
     rw [← dY hl,List.length_drop]; congr 1; omega
   ·rw [Gr hg hs hw,ih _ (show s.length - (a + 1) < n by omega) _ rfl (by omega),dY hl]
    simp [sk,hw]
  ·rw [Kw hl,List.drop_eq_nil_of_le hl]
   simp only [sk,List.length_nil]; congr 1; omega
def sgA (c:UInt8):Bool:=decide (0≤Lib.indexByte [61,33,60,62] c)
def sgB (c:UInt8):Bool:=decide (0≤Lib.indexByte [123,125,40,41,44,58,59,61,60,62] c)
def eD:Str→Int × Int
 | []=>(0,0)
 | c :: r=>if isL c then (1,0) else if isD c then (2,0) else if c=45∧(r.head?.map isD)=some true then (2,0) else if c=34 then (3,0)
   else if sgA c=true∧r.head?=some 61 then (4,2) else if sgB c then (4,1) else (0,0)
theorem PA (c:UInt8) (r:Str):dA (c :: r)=some (eD (c :: r)):=by
 have u1:=gR c 45 (by decide)
 have u2:=gR c 34 (by decide)
 simp only [Int.cast_ofNat_Int] at u1 u2
 unfold dA eD
 rw [iP (x:=c) (by omega) rfl,gU,aD]
 cases h1:isL c
 ·rw [a6,gM,aD]
  cases h2:isD c
  ·have hcc:(c.toNat:Int).toNat.toUInt8=c:=by simp
   have k1:Lib.indexByte (bs [61,33,60,62]).data.toList c=Lib.indexByte [61,33,60,62] c:=rfl
   have k2:Lib.indexByte (bs [123,125,40,41,44,58,59,61,60,62]).data.toList c=Lib.indexByte [123,125,40,41,44,58,59,61,60,62] c:=rfl
   simp only [a6,aZ,strings_IndexByte,hcc,aD,k1,k2,h1,h2,Bool.false_eq_true,if_false,bL]
   rw [show decide ((c.toNat:Int)=45)=decide (c=45) from by rw [decide_eq_decide]; exact u1,show decide ((c.toNat:Int)=34)=decide (c=34) from by rw [decide_eq_decide]; exact u2]
   rw [show decide ((0:Int)≤Lib.indexByte [61,33,60,62] c)=sgA c from rfl,show decide ((0:Int)≤Lib.indexByte [123,125,40,41,44,58,59,61,60,62] c)=sgB c from rfl]
   rcases r with _ | ⟨d,r⟩
   ·have hl:decide ((1:Int) < (([c]:Str).length:Int))=false:=by simp
    rw [hl]
    by_cases h3:c=45
    ·subst h3; decide
    ·by_cases h4:c=34
     ·subst h4; decide
     ·simp only [h3,h4,decide_false,cond_false,a6,false_and,if_false,List.head?_nil,reduceCtorEq,and_false]
      cases sgA c <;> cases sgB c <;> simp
   ·have hl:decide ((1:Int) < ((c :: d :: r:Str).length:Int))=true:=by rw [decide_eq_true_eq]; simp; omega
    have u3:=gR d 61 (by decide)
    simp only [Int.cast_ofNat_Int] at u3
    have hi:∀ {β:Type} (m:UInt8→Option β),bS (c :: d :: r) (1:Int) m=m d:=fun m=>iP (by omega) rfl m
    simp only [hl,hi,gM,aD,List.head?_cons,Option.map_some,Option.some.injEq]
    rw [show decide ((d.toNat:Int)=61)=decide (d=61) from by rw [decide_eq_decide]; exact u3]
    by_cases h3:c=45
    ·subst h3
     rw [show sgA 45=false from by decide,show sgB 45=false from by decide]
     cases isD d <;> rfl
    ·by_cases h4:c=34
     ·subst h4; rfl
     ·simp only [h3,h4,decide_false,cond_false,a6,false_and,if_false]
      by_cases h5:d=61
      ·subst h5; cases sgA c <;> cases sgB c <;> simp <;> rfl
      ·simp only [h5,decide_false,a6,and_false,if_false]
       cases sgA c <;> cases sgB c <;> simp
  ·simp [h1,h2]
 ·simp [h1]
def fT:Str→Nat→Str→Str × Nat × Int
 | _,_,[]=>([],0,12)
 | acc,i,c :: r=>if c=34 then (acc,i + 1,0) else if c=10 then ([],0,12) else if c=92 then (match r with
   | []=>([],0,12)
   | d :: r2=>if d=92 then fT (acc ++ [d]) (i + 2) r2 else if d=34 then fT (acc ++ [d]) (i + 2) r2 else if d=110 then fT (acc ++ [10]) (i + 2) r2 else ([],i,1))
  else fT (acc ++ [c]) (i + 1) r
theorem Dc (acc:Str) (i:Nat) (c:UInt8) (r:Str):fT acc i (c :: r)=if c=34 then (acc,i + 1,0) else if c=10 then ([],0,12) else if c=92 then (match r with
   | []=>([],0,12)
   | d :: r2=>if d=92 then fT (acc ++ [d]) (i + 2) r2 else if d=34 then fT (acc ++ [d]) (i + 2) r2 else if d=110 then fT (acc ++ [10]) (i + 2) r2 else ([],i,1))
  else fT (acc ++ [c]) (i + 1) r:=by cases r <;> rfl
def cv3 (r:Str × Nat × Int):Str × Int × Int:=(r.1,(r.2.1:Int),r.2.2)
theorem BR (c:UInt8):[((c.toNat:Nat):Int)]=d8 [c]:=rfl
theorem Ls (t:Str) (ht:t.length≤100000000):mX t=some (cv3 (fT [] 1 t.tail)):=by
 unfold mX
 simp only [aZ,fY,DN,aV,bK]
 refine (eN (fun x:List Int × Int=>∃ (n:Nat) (acc:Str),x.1=d8 acc∧x.2=n∧1≤n∧n≤t.length + 1∧acc.length≤n) (fun x=>t.length + 2 - x.2.toNat) (fun x=>cv3 (fT (d7 x.1) x.2.toNat (t.drop x.2.toNat))) ?_ ⟨1,[],rfl,rfl,by omega,by omega,by simp⟩).trans (by simp [d7])
 rintro ⟨x1,x2⟩ ⟨n,acc,h1,h2,h3,h4,h5⟩
 simp only at h1 h2
 subst h1 h2
 simp only [Int.toNat_natCast,wL]
 by_cases hl:n < t.length
 ·generalize hc:nth t n=c
  have hg:=bO hl
  rw [hc] at hg
  have v1:=gR c 34 (by decide)
  have v2:=gR c 10 (by decide)
  have v3:=gR c 92 (by decide)
  simp only [Int.cast_ofNat_Int] at v1 v2 v3
  have ol:=lU acc
  rw [if_pos (by omega),bB hg,dY hl,hc]
  rw [Dc]
  by_cases c1:c=34
  ·left; rw [if_pos (v1.2 c1),if_pos c1,bF (by omega)]; rfl
  rw [if_neg (fun e=>c1 (v1.1 e)),if_neg c1]
  by_cases c2:c=10
  ·left; rw [if_pos (v2.2 c2),if_pos c2]; rfl
  rw [if_neg (fun e=>c2 (v2.1 e)),if_neg c2]
  by_cases c3:c=92
  ·rw [if_pos (v3.2 c3),if_pos c3,bF (by omega)]
   by_cases hl2:n + 1 < t.length
   ·generalize hd:nth t (n + 1)=d
    have hg2:=bO hl2
    rw [hd] at hg2
    have w1:=gR d 92 (by decide)
    have w2:=gR d 34 (by decide)
    have w3:=gR d 110 (by decide)
    simp only [Int.cast_ofNat_Int] at w1 w2 w3
    have hi:∀ {β:Type} (m:UInt8→Option β),bS t ((n:Int) + 1) m=m d:=fun m=>by
     rw [show (n:Int) + 1=((n + 1:Nat):Int) by omega]; exact bB hg2 m
    rw [if_neg (by omega),hi,dY hl2,hd]
    simp only
    have fin:∀ (e:UInt8),∃ s':List Int × Int,(bE (d8 acc ++ [((e.toNat:Nat):Int)],((n:Int) + 1 + 1)):Option ((List Int × Int) ⊕ (Str × Int × Int)))=some (Sum.inl s')∧(∃ (m:Nat) (ac:Str),s'.1=d8 ac∧s'.2=m∧1≤m∧m≤t.length + 1∧ac.length≤m)∧t.length + 2 - s'.2.toNat < t.length + 2 - n ∧
      cv3 (fT (d7 s'.1) s'.2.toNat (t.drop s'.2.toNat))=cv3 (fT (acc ++ [e]) (n + 2) (t.drop (n + 1 + 1))):=fun e=>by
     refine ⟨_,rfl,⟨n + 2,acc ++ [e],by rw [BR,← kP],by simp only; omega,by omega,by omega,by simp; omega⟩,by simp only; omega,?_⟩
     simp only
     rw [BR,← kP,wL,show ((n:Int) + 1 + 1).toNat=n + 2 by omega]
    by_cases d1:d=92
    ·right; rw [if_pos (w1.2 d1),if_pos d1,hi,aP (by simp; omega),bF (by omega)]; exact fin d
    rw [if_neg (fun e=>d1 (w1.1 e)),if_neg d1,hi]
    by_cases d2:d=34
    ·right; rw [if_pos (w2.2 d2),if_pos d2,hi,aP (by simp; omega),bF (by omega)]; exact fin d
    rw [if_neg (fun e=>d2 (w2.1 e)),if_neg d2,hi]
    by_cases d3:d=110
    ·right; rw [if_pos (w3.2 d3),if_pos d3,aP (by simp; omega),bF (by omega)]; exact fin 10
    ·left; rw [if_neg (fun e=>d3 (w3.1 e)),if_neg d3]; rfl
   ·left; rw [if_pos (by omega),List.drop_eq_nil_of_le (by omega)]; rfl
  ·right
   rw [if_neg (fun e=>c3 (v3.1 e)),if_neg c3,aP (by simp; omega),bF (by omega)]
   refine ⟨_,rfl,⟨n + 1,acc ++ [c],by rw [BR,← kP],by simp only; omega,by omega,by omega,by simp; omega⟩,by simp only; omega,?_⟩
   simp only
   rw [BR,← kP,wL,show ((n:Int) + 1).toNat=n + 1 by omega]
 ·left
  rw [if_neg (by omega),List.drop_eq_nil_of_le (by omega)]; rfl
theorem wE:∀ (m:Nat) (r acc:Str) (i:Nat),r.length≤m→((fT acc i r).2.2=0→i + 1≤(fT acc i r).2.1∧(fT acc i r).2.1≤i + r.length∧(fT acc i r).1.length≤acc.length + r.length) ∧
  ((fT acc i r).2.2 ≠ 0→(fT acc i r).2.2 ≠ 3∧(fT acc i r).2.1 < i + r.length ∨ (fT acc i r).2.1=0∧(fT acc i r).2.2=12)
 | 0,r,acc,i,h=>by
  have:r=[]:=List.eq_nil_of_length_eq_zero (by omega)
  subst this
  simp [fT]
 | m + 1,[],acc,i,h=>by simp [fT]
 | m + 1,c :: r,acc,i,h=>by
  simp only [List.length_cons] at h
  have ih1:=wE m r (acc ++ [c]) (i + 1) (by omega)
  simp only [List.length_append,List.length_cons,List.length_nil] at ih1
  simp only [Dc,List.length_cons]
  split
  ·refine ⟨fun _=>by simp only; omega,fun h=>absurd rfl h⟩
  ·split
   ·simp
   ·split
    ·rcases r with _ | ⟨d,r2⟩
     ·simp
     ·simp only [List.length_cons] at h ⊢
      have ih2:=wE m r2 (acc ++ [d]) (i + 2) (by omega)
      have ih3:=wE m r2 (acc ++ [10]) (i + 2) (by omega)
      simp only [List.length_append,List.length_cons,List.length_nil] at ih2 ih3
      split
      ·exact ⟨fun h=>by have:=ih2.1 h; omega,fun h=>by have:=ih2.2 h; omega⟩
      ·split
       ·exact ⟨fun h=>by have:=ih2.1 h; omega,fun h=>by have:=ih2.2 h; omega⟩
       ·split
        ·exact ⟨fun h=>by have:=ih3.1 h; omega,fun h=>by have:=ih3.2 h; omega⟩
        ·refine ⟨fun h=>by simp at h,fun _=>.inl ⟨by simp,by simp only; omega⟩⟩
    ·exact ⟨fun h=>by have:=ih1.1 h; omega,fun h=>by have:=ih1.2 h; omega⟩
theorem uU:∀ (m:Nat) (r acc x:Str) (i:Nat),r.length≤m→(fT acc i r).2.2=0→fT acc i (r ++ x)=fT acc i r
 | 0,r,acc,x,i,h,he=>by
  have:r=[]:=List.eq_nil_of_length_eq_zero (by omega)
  subst this
  simp [fT] at he
 | m + 1,[],acc,x,i,h,he=>by simp [fT] at he
 | m + 1,c :: r,acc,x,i,h,he=>by
  simp only [List.length_cons] at h
  simp only [Dc,List.cons_append] at he ⊢
  split
  ·rfl
  ·rename_i c1
   rw [if_neg c1] at he
   split
   ·rfl
   ·rename_i c2
    rw [if_neg c2] at he
    split
    ·rename_i c3
     rw [if_pos c3] at he
     rcases r with _ | ⟨d,r2⟩
     ·simp at he
     ·simp only [List.length_cons,List.cons_append] at h he ⊢
      split
      ·rename_i d1; rw [if_pos d1] at he; exact uU m r2 _ x _ (by omega) he
      ·rename_i d1; rw [if_neg d1] at he
       split
       ·rename_i d2; rw [if_pos d2] at he; exact uU m r2 _ x _ (by omega) he
       ·rename_i d2; rw [if_neg d2] at he
        split
        ·rename_i d3; rw [if_pos d3] at he; exact uU m r2 _ x _ (by omega) he
        ·rename_i d3; rw [if_neg d3] at he; try simp at he
    ·rename_i c3; rw [if_neg c3] at he; exact uU m r _ x _ (by omega) he
def pG (p:Bool) (u:Str):Nat:=1 + ((u.drop 1).takeWhile (isR p)).length
def qtS (z:Str × Nat × Int):(Nat × Int) ⊕ ((Int × Str) × Nat):=if z.2.2=0 then .inr ((3,z.1),z.2.1) else .inl (z.2.1,z.2.2)
def j5 (u:Str):(Nat × Int) ⊕ ((Int × Str) × Nat) :=
 if (eD u).1=0 then .inl (0,1)
 else if (eD u).1=3 then qtS (fT [] 1 u.tail)
 else if (eD u).1=4 then .inr ((4,u.take (eD u).2.toNat),(eD u).2.toNat)
 else .inr (((eD u).1,u.take (pG (decide ((eD u).1=2)) u)),pG (decide ((eD u).1=2)) u)
theorem Bm (c:UInt8) (r:Str):((eD (c :: r)).1=0 ∨ (eD (c :: r)).1=1 ∨ (eD (c :: r)).1=2 ∨ (eD (c :: r)).1=3 ∨ (eD (c :: r)).1=4)∧((eD (c :: r)).1=4→1≤(eD (c :: r)).2∧(eD (c :: r)).2≤r.length + 1):=by
  simp only [eD]
  repeat' split
  all_goals first
    | (simp; done)
    | (simp; omega)
    | (rename_i h; rcases r with _ | ⟨d,r⟩
       · simp at h
       · simp only [List.length_cons]; refine ⟨by simp,fun _=>⟨by simp,by first | omega | (simp only; omega)⟩⟩)
theorem He (p:Bool) (c:UInt8) (r:Str):1≤pG p (c :: r)∧pG p (c :: r)≤r.length + 1:=by
 unfold pG
 have:=(List.takeWhile_sublist (l:=r) (isR p)).length_le
 simp only [List.drop_succ_cons,List.drop_zero]
 omega
theorem pB (c:UInt8) (r:Str):(∀ n e,j5 (c :: r)=.inl (n,e)→n < r.length + 1∧e ≠ 0∧e ≠ 3)∧(∀ k w n,j5 (c :: r)=.inr ((k,w),n)→1≤n∧n≤r.length + 1∧w.length≤r.length + 1):=by
 have hb:=Bm c r
 have ht:=wE r.length r [] 1 (Nat.le_refl _)
 have hr:=He (decide ((eD (c :: r)).1=2)) c r
 simp only [List.length_nil] at ht
 unfold j5
 simp only [List.tail_cons]
 split
 ·refine ⟨fun n e h=>?_,fun k w n h=>by cases h⟩
  cases h; omega
 ·split
  ·generalize fT [] 1 r=z at *
   unfold qtS
   by_cases h0:z.2.2=0
   ·rw [if_pos h0]
    have:=ht.1 h0
    refine ⟨fun n e h=>(by cases h),fun k w n h=>?_⟩
    cases h; omega
   ·rw [if_neg h0]
    have:=ht.2 h0
    refine ⟨fun n e h=>?_,fun k w n h=>by cases h⟩
    cases h; omega
  ·split
   ·rename_i h4
    have:=hb.2 h4
    refine ⟨fun n e h=>(by cases h),fun k w n h=>?_⟩
    cases h
    rw [List.length_take]; simp only [List.length_cons]; omega
   ·refine ⟨fun n e h=>(by cases h),fun k w n h=>?_⟩
    cases h
    rw [List.length_take]; simp only [List.length_cons]; omega
theorem PM (c:UInt8) (r x:Str):eD (c :: (r ++ 10 :: x))=eD (c :: r):=by
 rcases r with _ | ⟨d,r⟩
 ·simp [eD,show isD 10=false from by decide]
 ·simp [eD]
theorem AE (p:UInt8→Bool) (d:UInt8) (x:Str) (hd:p d=false):∀ l:Str,(l ++ d :: x).takeWhile p=l.takeWhile p
 | []=>by simp [hd]
 | c :: l=>by
  simp only [List.cons_append,List.takeWhile_cons]
  rw [AE p d x hd l]
theorem PS (p:Bool) (c:UInt8) (r x:Str):pG p (c :: (r ++ 10 :: x))=pG p (c :: r):=by
 unfold pG
 simp only [List.drop_succ_cons,List.drop_zero]
 rw [AE _ _ _ (by cases p <;> decide)]
theorem Qf {c:UInt8}{r:Str} (x:Str) {z:(Int × Str) × Nat} (h:j5 (c :: r)=.inr z):j5 (c :: (r ++ 10 :: x))=.inr z:=by
 have hb:=Bm c r
 have hr:=He (decide ((eD (c :: r)).1=2)) c r
 have tk:∀ n,n≤r.length + 1→(c :: (r ++ 10 :: x)).take n=(c :: r).take n:=fun n hn=>by
  rw [← List.cons_append,List.take_append_of_le_length (by simp only [List.length_cons]; omega)]
 unfold j5 at h ⊢
 rw [PM,PS]
 simp only [List.tail_cons] at h ⊢
 split at h
 ·cases h
 ·rename_i h0
  rw [if_neg h0]
  split at h
  ·rename_i h3
   rw [if_pos h3]
   by_cases he:(fT [] 1 r).2.2=0
   ·rw [uU r.length r [] _ 1 (Nat.le_refl _) he]; exact h
   ·unfold qtS at h; rw [if_neg he] at h; cases h
  ·rename_i h3
   rw [if_neg h3]
   split at h
   ·rename_i h4
    have:=hb.2 h4
    rw [if_pos h4,tk _ (by omega)]; exact h
   ·rename_i h4
    rw [if_neg h4,tk _ hr.2]; exact h
theorem NY {u:Str} (hu:u ≠ []) (x:Str) {z:(Int × Str) × Nat} (h:j5 u=.inr z):j5 (u ++ 10 :: x)=.inr z:=by
 rcases u with _ | ⟨c,r⟩
 ·exact absurd rfl hu
 ·exact Qf x h
def dZ:Nat→Str→Nat→List aL→List aL × Nat × Int
 | 0,_,a,acc=>(acc,a,0)
 | f + 1,t,a,acc=>if sk false t=[] then (acc,a + t.length,0) else match j5 (sk false t) with
  | .inl z=>(acc,a + (t.length - (sk false t).length) + z.1,z.2)
  | .inr z=>dZ f ((sk false t).drop z.2) (a + (t.length - (sk false t).length) + z.2) (acc ++ [⟨z.1.1,((a + (t.length - (sk false t).length):Nat):Int),z.1.2⟩])
theorem Dv:∀ (f g:Nat) (t:Str) (a:Nat) (acc:List aL),t.length < f→t.length < g→dZ f t a acc=dZ g t a acc
 | 0,_,_,_,_,h,_=>by omega
 | _ + 1,0,_,_,_,_,h=>by omega
 | f + 1,g + 1,t,a,acc,h1,h2=>by
  unfold dZ
  have hl:=xQ false t
  split
  ·rfl
  ·rename_i hu
   cases hz:j5 (sk false t) with
   | inl z=>rfl
   | inr z=>
    simp only
    obtain ⟨c,r,hcr⟩:∃ c r,sk false t=c :: r:=by
     cases hs:sk false t with
     | nil=>exact absurd hs hu
     | cons c r=>exact ⟨c,r,rfl⟩
    obtain ⟨⟨k,w⟩,n⟩:=z
    have:=(pB c r).2 k w n (by rw [← hcr]; exact hz)
    have hlen:=congrArg List.length hcr
    simp only [List.length_cons] at hlen
    exact Dv f g _ _ _ (by rw [List.length_drop]; omega) (by rw [List.length_drop]; omega)
theorem zJ (f:Nat) (t:Str) (a:Nat) (acc:List aL):dZ (f + 1) t a acc=dZ (f + 1) (sk false t) (a + (t.length - (sk false t).length)) acc:=by
 have hl:=xQ false t
 conv=>lhs; unfold dZ
 conv=>rhs; unfold dZ
 rw [RZ (tB false t),Nat.sub_self,Nat.add_zero]
 split
 ·rename_i h; rw [h]; simp
 ·rfl
theorem BL:∀ (f:Nat) (t:Str) (a:Nat) (acc:List aL),t.length < f→∃ l,(dZ f t a acc).1=acc ++ l∧l.length≤t.length∧(∀ x ∈ l,(a:Int)≤x.At∧x.At < ((a + t.length:Nat):Int)∧x.S.length≤t.length) ∧
  ((dZ f t a acc).2.2=0→(dZ f t a acc).2.1=a + t.length)∧((dZ f t a acc).2.2 ≠ 0→(dZ f t a acc).2.1 < a + t.length∧(dZ f t a acc).2.2 ≠ 3)
 | 0,_,_,_,h=>by omega
 | f + 1,t,a,acc,h=>by
  have hl:=xQ false t
  unfold dZ
  split
  ·exact ⟨[],by simp,by simp,by simp,fun _=>rfl,fun h=>absurd rfl h⟩
  ·rename_i hu
   obtain ⟨c,r,hcr⟩:∃ c r,sk false t=c :: r:=by
    cases hs:sk false t with
    | nil=>exact absurd hs hu
    | cons c r=>exact ⟨c,r,rfl⟩
   have hlen:=congrArg List.length hcr
   simp only [List.length_cons] at hlen
   cases hz:j5 (sk false t) with
   | inl z=>
    obtain ⟨n,e⟩:=z
    have:=(pB c r).1 n e (by rw [← hcr]; exact hz)
    exact ⟨[],by simp,by simp,by simp,fun h=>absurd h this.2.1,fun _=>⟨by simp only; omega,this.2.2⟩⟩
   | inr z=>
    obtain ⟨⟨k,w⟩,n⟩:=z
    have:=(pB c r).2 k w n (by rw [← hcr]; exact hz)
    obtain ⟨l,h1,h2,h3,h4,h5⟩:=BL f ((sk false t).drop n) (a + (t.length - (sk false t).length) + n) (acc ++ [⟨k,((a + (t.length - (sk false t).length):Nat):Int),w⟩]) (by rw [List.length_drop]; omega)
    rw [List.length_drop] at h2 h3 h4 h5
    refine ⟨⟨k,((a + (t.length - (sk false t).length):Nat):Int),w⟩ :: l,by simp only; rw [h1,List.append_assoc]; rfl,by simp only [List.length_cons]; omega,fun x hx=>?_,fun h=>?_,fun h=>?_⟩
    ·rcases List.mem_cons.1 hx with rfl | hx
     ·simp only; omega
     ·have:=h3 x hx; omega
    ·have:=h4 h; simp only; omega
    ·have:=h5 h; simp only at this ⊢; exact ⟨by omega,this.2⟩
theorem C2:∀ (b:Bool) (s y:Str),sk b s ≠ []→sk b (s ++ y)=sk b s ++ y
 | _,[],_,h=>absurd (by simp [sk]) h
 | true,c :: s,y,h=>by
  simp only [sk,List.cons_append] at h ⊢
  split
  ·rename_i e; rw [if_pos e] at h; exact C2 _ s y h
  ·rename_i e; rw [if_neg e] at h; exact C2 _ s y h
 | false,c :: s,y,h=>by
  simp only [sk,List.cons_append] at h ⊢
  split
  ·rename_i e; rw [if_pos e] at h; exact C2 _ s y h
  ·rename_i e; rw [if_neg e] at h
   split
   ·rename_i e2; rw [if_pos e2] at h; exact C2 _ s y h
   ·rfl
theorem AN:∀ (b:Bool) (s x:Str),sk b s=[]→sk b (s ++ 10 :: x)=sk false x
 | true,[],x,_=>by simp [sk]
 | false,[],x,_=>by simp [sk,isW]
 | true,c :: s,x,h=>by
  simp only [sk,List.cons_append] at h ⊢
  split
  ·rename_i e; rw [if_pos e] at h; exact AN _ s x h
  ·rename_i e; rw [if_neg e] at h; exact AN _ s x h
 | false,c :: s,x,h=>by
  simp only [sk,List.cons_append] at h ⊢
  split
  ·rename_i e; rw [if_pos e] at h; exact AN _ s x h
  ·rename_i e; rw [if_neg e] at h
   split
   ·rename_i e2; rw [if_pos e2] at h; exact AN _ s x h
   ·rename_i e2; rw [if_neg e2] at h; cases h
theorem It:∀ (f:Nat) (s t:Str) (a:Nat) (acc:List aL) (f2 g:Nat),s.length < f→(s ++ 10 :: t).length < f2→t.length < g→(dZ f s a acc).2.2=0 →
  dZ f2 (s ++ 10 :: t) a acc=dZ g t (a + s.length + 1) (dZ f s a acc).1
 | 0,_,_,_,_,_,_,h,_,_,_=>by omega
 | f + 1,s,t,a,acc,f2,g,h1,h2,h3,he=>by
  have hl:=xQ false s
  have hl2:=xQ false t
  obtain ⟨f2,rfl⟩:∃ k,f2=k + 1:=⟨f2 - 1,by omega⟩
  obtain ⟨g,rfl⟩:∃ k,g=k + 1:=⟨g - 1,by omega⟩
  simp only [List.length_append,List.length_cons] at h2
  by_cases hu:sk false s=[]
  ·have e1:(dZ (f + 1) s a acc).1=acc:=by unfold dZ; rw [if_pos hu]
   rw [e1,zJ f2,zJ g,AN _ _ _ hu]
   have ep:a + ((s ++ 10 :: t).length - (sk false t).length)=a + s.length + 1 + (t.length - (sk false t).length):=by simp only [List.length_append,List.length_cons]; omega
   rw [ep]
   exact Dv _ _ _ _ _ (by omega) (by omega)
  ·obtain ⟨c,r,hcr⟩:∃ c r,sk false s=c :: r:=by
    cases hs:sk false s with
    | nil=>exact absurd hs hu
    | cons c r=>exact ⟨c,r,rfl⟩
   have hlen:=congrArg List.length hcr
   simp only [List.length_cons] at hlen
   unfold dZ at he
   rw [if_neg hu] at he
   cases hz:j5 (sk false s) with
   | inl z=>
    rw [hz] at he
    obtain ⟨n,e⟩:=z
    have:=(pB c r).1 n e (by rw [← hcr]; exact hz)
    exact absurd he this.2.1
   | inr z=>
    rw [hz] at he
    simp only at he
    have hm:=NY hu t hz
    have e1:dZ (f + 1) s a acc=dZ f ((sk false s).drop z.2) (a + (s.length - (sk false s).length) + z.2) (acc ++ [⟨z.1.1,((a + (s.length - (sk false s).length):Nat):Int),z.1.2⟩]):=by
     conv=>lhs; unfold dZ
     rw [if_neg hu,hz]
    obtain ⟨⟨k,w⟩,n⟩:=z
    have hn:=(pB c r).2 k w n (by rw [← hcr]; exact hz)
    have ep:a + ((s ++ 10 :: t).length - (sk false s ++ 10 :: t).length)=a + (s.length - (sk false s).length):=by simp only [List.length_append,List.length_cons]; omega
    have e2:dZ (f2 + 1) (s ++ 10 :: t) a acc=dZ f2 ((sk false s ++ 10 :: t).drop n) (a + (s.length - (sk false s).length) + n) (acc ++ [⟨k,((a + (s.length - (sk false s).length):Nat):Int),w⟩]):=by
     conv=>lhs; unfold dZ
     rw [C2 _ _ _ hu,if_neg (by rw [hcr]; simp),hm]
     simp only
     rw [ep]
    rw [e1,e2,List.drop_append_of_le_length (by omega)]
    rw [It f ((sk false s).drop n) t _ _ f2 (g + 1) (by rw [List.length_drop]; omega) (by rw [List.length_append,List.length_drop,List.length_cons]; omega) h3 he]
    congr 1
    rw [List.length_drop]; omega
def cvL (r:List aL × Nat × Int):List aL × Int × Int:=(r.1,(r.2.1:Int),r.2.2)
def eK (s:Str):List aL × Nat × Int:=dZ (s.length + 1) s 0 []
theorem NI (s:Str) (hs:s.length≤60000):oZ s=some (cvL (eK s)):=by
 have hk:∀ n:Nat,n≤s.length→dV s (n:Int)=some ((s.length - (sk false (s.drop n)).length:Nat):Int):=fun n hn=>SL s (by omega) _ n rfl hn
 have h0:dV s (0:Int)=some ((s.length - (sk false s).length:Nat):Int):=by simpa using hk 0 (by omega)
 have hl0:=xQ false s
 unfold oZ eK
 rw [h0,aD]
 simp only [aZ,fY,DN,aV,bK]
 refine (eN (fun x:List aL × Int=>∃ n:Nat,x.2=n∧n≤s.length∧Oc (s.drop n)∧x.1.length≤n) (fun x=>s.length - x.2.toNat) (fun x=>cvL (dZ (s.length + 1) (s.drop x.2.toNat) x.2.toNat x.1)) ?_ ⟨_,rfl,by omega,by rw [GS]; exact tB _ _,by simp⟩).trans ?_
 ·rintro ⟨acc,i⟩ ⟨n,h1,h2,h3,h4⟩
  simp only at h1 h4
  subst h1
  simp only [Int.toNat_natCast]
  by_cases hl:n < s.length
  ·have hd:=dY hl
   generalize nth s n=c at *
   generalize hr:s.drop (n + 1)=r at *
   have hrl:r.length=s.length - (n + 1):=by rw [← hr,List.length_drop]
   have hbf:=Bm c r
   have htf:=pB c r
   have hrn:=He (decide ((eD (c :: r)).1=2)) c r
   have hsk:sk false (c :: r)=c :: r:=RZ (by rw [← hd]; exact h3)
   have e0:dZ (s.length + 1) (c :: r) n acc=match j5 (c :: r) with
    | .inl z=>(acc,n + z.1,z.2)
    | .inr z=>dZ s.length ((c :: r).drop z.2) (n + z.2) (acc ++ [⟨z.1.1,(n:Int),z.1.2⟩]):=by
    conv=>lhs; unfold dZ
    rw [hsk,Nat.sub_self,Nat.add_zero,if_neg (by simp)]
    try (cases j5 (c :: r) <;> rfl)
   have fin:∀ (k:Int) (w:Str) (m:Nat),j5 (c :: r)=.inr ((k,w),m)→∃ s':List aL × Int,((aN vI (fun x=>[tk (acc ++ [(⟨k,(n:Int),w⟩:aL)]).length 3 74]) (dV s ((n:Int) + (m:Int))) fun x18=>bE (acc ++ [(⟨k,(n:Int),w⟩:aL)],x18)):Option ((List aL × Int) ⊕ (List aL × Int × Int)))=some (Sum.inl s')∧(∃ n':Nat,s'.2=n'∧n'≤s.length∧Oc (s.drop n')∧s'.1.length≤n')∧s.length - s'.2.toNat < s.length - n ∧
     cvL (dZ (s.length + 1) (s.drop s'.2.toNat) s'.2.toNat s'.1)=cvL (dZ (s.length + 1) (c :: r) n acc):=by
    intro k w m hz
    have hm:=htf.2 k w m hz
    rw [e0,hz]
    simp only
    have hle:=xQ false (s.drop (n + m))
    rw [List.length_drop] at hle
    rw [show (n:Int) + (m:Int)=((n + m:Nat):Int) by omega,hk _ (by omega),aD]
    have ed:s.drop (s.length - (sk false (s.drop (n + m))).length)=sk false (s.drop (n + m)):=by
     rw [show s.length - (sk false (s.drop (n + m))).length=(n + m) + ((s.drop (n + m)).length - (sk false (s.drop (n + m))).length) from by rw [List.length_drop]; omega,← List.drop_drop,GS]
    refine ⟨_,rfl,⟨_,rfl,by omega,by rw [ed]; exact tB _ _,by simp; omega⟩,by simp only [Int.toNat_natCast]; omega,?_⟩
    simp only [Int.toNat_natCast]
    rw [ed]
    have ed2:(c :: r).drop m=s.drop (n + m):=by rw [← hd,List.drop_drop]
    rw [ed2]
    have ep:s.length - (sk false (s.drop (n + m))).length=n + m + ((s.drop (n + m)).length - (sk false (s.drop (n + m))).length):=by rw [List.length_drop]; omega
    rw [ep,← zJ,Dv s.length (s.length + 1) _ _ _ (by rw [List.length_drop]; omega) (by rw [List.length_drop]; omega)]
   rw [if_pos (by omega),if_neg (by omega),aP (by omega),Int.toNat_natCast,List.take_length,hd,PA,aD]
   have hdt:∀ m:Nat,(s.take (n + m)).drop n=(c :: r).take m:=fun m=>by rw [List.drop_take,hd,Nat.add_sub_cancel_left]
   by_cases b0:(eD (c :: r)).1=0
   ·left
    rw [if_pos b0,e0]
    rw [show j5 (c :: r)=.inl (0,1) from by unfold j5; rw [if_pos b0]]
    rfl
   rw [if_neg b0]
   by_cases b3:(eD (c :: r)).1=3
   ·have tz:j5 (c :: r)=qtS (fT [] 1 r):=by unfold j5; rw [if_neg b0,if_pos b3]; rfl
    have htf1:=htf.1
    have hx0:=Ls (c :: r) (by simp only [List.length_cons]; omega)
    rcases hg:fT [] 1 r with ⟨v,m,e⟩
    have hx:mX (c :: r)=some (v,(m:Int),e):=by
     rw [hx0]; show some (cv3 (fT [] 1 r))=_; rw [hg]; rfl
    rw [hg] at tz
    rw [if_pos b3,aP (by omega),hx,aD]
    simp only
    by_cases he:e=0
    ·right
     have tz2:j5 (c :: r)=.inr ((3,v),m):=by rw [tz]; unfold qtS; rw [if_pos he]
     have hm:=htf.2 _ _ _ tz2
     rw [if_pos he,aP (by simp; omega),bF (by omega),b3]
     exact fin 3 v m tz2
    ·left
     have tz2:j5 (c :: r)=.inl (m,e):=by rw [tz]; unfold qtS; rw [if_neg he]
     have hm:=htf1 _ _ tz2
     rw [if_neg he,bF (by omega),e0,tz2]
     simp [cvL]
   rw [if_neg b3]
   have hrun:(1 + ((((c :: r).drop 1).takeWhile (isR (decide ((eD (c :: r)).1=2)))).length:Int))=(pG (decide ((eD (c :: r)).1=2)) (c :: r):Int):=by unfold pG; omega
   have run:(eD (c :: r)).1 ≠ 4→j5 (c :: r)=.inr (((eD (c :: r)).1,(c :: r).take (pG (decide ((eD (c :: r)).1=2)) (c :: r))),pG (decide ((eD (c :: r)).1=2)) (c :: r)):=fun b4=>by
    unfold j5; rw [if_neg b0,if_neg b3,if_neg b4]
   by_cases b1:(eD (c :: r)).1=1
   ·right
    rw [if_pos b1,aP (by omega),BG _ _ (by simp only [List.length_cons]; omega),aD,hrun,bF (by omega),aP (by omega),aP (by simp; omega)]
    rw [show ((n:Int) + (pG (decide ((eD (c :: r)).1=2)) (c :: r):Int)).toNat=n + pG (decide ((eD (c :: r)).1=2)) (c :: r) by omega,hdt]
    exact fin _ _ _ (run (by omega))
   rw [if_neg b1]
   by_cases b2:(eD (c :: r)).1=2
   ·right
    rw [if_pos b2,aP (by omega),BG _ _ (by simp only [List.length_cons]; omega),aD,hrun,bF (by omega),aP (by omega),aP (by simp; omega)]
    rw [show ((n:Int) + (pG (decide ((eD (c :: r)).1=2)) (c :: r):Int)).toNat=n + pG (decide ((eD (c :: r)).1=2)) (c :: r) by omega,hdt]
    exact fin _ _ _ (run (by omega))
   rw [if_neg b2]
   right
   have b4:(eD (c :: r)).1=4:=by omega
   have hb4:=hbf.2 b4
   obtain ⟨m,hm⟩:=Int.eq_ofNat_of_zero_le (show 0≤(eD (c :: r)).2 by omega)
   rw [hm] at hb4 ⊢
   rw [bF (by omega),aP (by omega),aP (by simp; omega)]
   rw [show ((n:Int) + (m:Int)).toNat=n + m by omega,hdt]
   exact fin _ _ _ (by unfold j5; rw [if_neg b0,if_neg b3,if_pos b4,hm,b4]; rfl)
  ·left
   have:n=s.length:=by omega
   subst this
   rw [if_neg (by omega),List.drop_length]
   simp [dZ,sk,cvL]
 ·simp only [Int.toNat_natCast]
  rw [GS,zJ s.length s 0,Nat.zero_add]
theorem FH (s:Str):(eK s).1.length≤s.length∧(∀ x ∈ (eK s).1,0≤x.At∧x.At < (s.length:Int)∧x.S.length≤s.length)∧((eK s).2.2=0→(eK s).2.1=s.length)∧((eK s).2.2 ≠ 0→(eK s).2.1 < s.length∧(eK s).2.2 ≠ 3):=by
 obtain ⟨l,h1,h2,h3,h4,h5⟩:=BL (s.length + 1) s 0 [] (by omega)
 unfold eK
 rw [h1]
 rw [Nat.zero_add] at h3 h4 h5
 exact ⟨by simpa using h2,fun x hx=>by have:=h3 x (by simpa using hx); omega,h4,h5⟩
theorem FW:∀ (f:Nat) (t:Str) (a b:Nat) (acc acc2:List aL),∃ l l2,(dZ f t a acc).1=acc ++ l∧(dZ f t b acc2).1=acc2 ++ l2∧l.map kv=l2.map kv∧(dZ f t a acc).2.2=(dZ f t b acc2).2.2
 | 0,_,_,_,_,_=>⟨[],[],by simp [dZ],by simp [dZ],rfl,rfl⟩
 | f + 1,t,a,b,acc,acc2=>by
  unfold dZ
  split
  ·exact ⟨[],[],by simp,by simp,rfl,rfl⟩
  ·cases hz:j5 (sk false t) with
   | inl z=>exact ⟨[],[],by simp,by simp,rfl,rfl⟩
   | inr z=>
    simp only
    obtain ⟨l,l2,h1,h2,h3,h4⟩:=FW f ((sk false t).drop z.2) (a + (t.length - (sk false t).length) + z.2) (b + (t.length - (sk false t).length) + z.2) (acc ++ [⟨z.1.1,((a + (t.length - (sk false t).length):Nat):Int),z.1.2⟩]) (acc2 ++ [⟨z.1.1,((b + (t.length - (sk false t).length):Nat):Int),z.1.2⟩])
    exact ⟨_ :: l,_ :: l2,by rw [h1,List.append_assoc]; rfl,by rw [h2,List.append_assoc]; rfl,by simp only [List.map_cons,h3]; try rfl,h4⟩
theorem Pd {s t:Str} (hs:(eK s).2.2=0) (ht:(eK t).2.2=0):∃ l,(eK (s ++ 10 :: t)).1=(eK s).1 ++ l∧(eK (s ++ 10 :: t)).2.2=0∧l.map kv=(eK t).1.map kv∧∀ x ∈ l,(s.length:Int) < x.At:=by
 have hj:=It (s.length + 1) s t 0 [] ((s ++ 10 :: t).length + 1) (t.length + 1) (by omega) (by omega) (by omega) hs
 obtain ⟨l,l2,h1,h2,h3,h4⟩:=FW (t.length + 1) t (0 + s.length + 1) 0 (dZ (s.length + 1) s 0 []).1 []
 obtain ⟨l3,k1,_,k3,_⟩:=BL (t.length + 1) t (0 + s.length + 1) (dZ (s.length + 1) s 0 []).1 (by omega)
 have e:l3=l:=List.append_cancel_left (k1.symm.trans h1)
 subst e
 have hj':eK (s ++ 10 :: t)=_:=hj
 rw [hj']
 refine ⟨l3,h1,by rw [h4]; exact ht,?_,fun x hx=>by have:=(k3 x hx).1; omega⟩
 rw [h3]
 show _=(dZ (t.length + 1) t 0 []).1.map kv
 rw [h2]; rfl
theorem cQ {k:Int}{s:Str}{t:List Kt} (x:List Kt) (h:t ≠ []):isT k s (t ++ x)=isT k s t:=by
 rcases t with _ | ⟨y,t⟩
 ·exact absurd rfl h
 ·rfl
theorem cD {k:Int}{s:Str}{t:List Kt} (h:isT k s t=true):t ≠ []:=by
 intro e; rw [e] at h; cases h
theorem dW {t:List Kt} (x:List Kt) (h:t ≠ []):(t ++ x).tail=t.tail ++ x:=by
 rcases t with _ | ⟨y,t⟩
 ·exact absurd rfl h
 ·rfl
theorem Td {t:List Kt} (x:List Kt) (h:t ≠ []):opP (t ++ x)=opP t:=by
 rcases t with _ | ⟨y,t⟩
 ·exact absurd rfl h
 ·rfl
theorem zK {t u:List Kt}{a:Str} (x:List Kt) (h:jS t=.ok a u):jS (t ++ x)=.ok a (u ++ x):=by
 rcases t with _ | ⟨y,t⟩
 ·cases h
 ·simp only [jS,List.cons_append] at h ⊢
  split at h
  ·rename_i h1
   rw [if_pos h1]
   split at h
   ·rename_i h2; rw [if_pos h2]; cases h; rfl
   ·cases h
  ·cases h
theorem KM {n:Nat}{nm:Str}{nt:Bool}{t u:List Kt}{a:bI} (x:List Kt) (h:rW n nm nt t=.ok a u):rW n nm nt (t ++ x)=.ok a (u ++ x):=by
 rcases t with _ | ⟨y,t⟩
 ·cases h
 ·simp only [rW,List.cons_append] at h ⊢
  split at h
  ·rename_i h1
   rw [if_pos h1]
   split at h
   ·cases h
   ·rename_i h2; rw [if_neg h2]; cases h; rfl
  ·cases h
theorem QZ {s:cN}{k:Int}{t u:List Kt}{a:bX} (x:List Kt) (h:sW s k t=.ok a u):sW s k (t ++ x)=.ok a (u ++ x):=by
 rcases t with _ | ⟨y,t⟩
 ·cases h
 ·simp only [sW,List.cons_append] at h ⊢
  split at h
  ·rename_i h1
   rw [if_pos h1]
   split at h
   ·rename_i h2; rw [if_pos h2]; cases h; rfl
   ·cases h
  ·cases h
theorem E8 {t u:List Kt}{a:Int} (x:List Kt) (h:eX t=.ok a u):eX (t ++ x)=.ok a (u ++ x):=by
 rcases t with _ | ⟨y,t⟩
 ·cases h
 ·simp only [eX,List.cons_append] at h ⊢
  split at h
  ·rename_i h1
   rw [if_pos h1]
   split at h
   ·rename_i h2; rw [if_pos h2]; cases h; rfl
   ·cases h
  ·cases h
theorem N4 {n:Nat}{t u:List Kt}{a:bI} (x:List Kt) (h:mB n t=.ok a u):mB n (t ++ x)=.ok a (u ++ x):=by
 unfold mB at h ⊢
 cases hn:jS t with
 | er v e=>rw [hn] at h; cases h
 | ok nm v=>
  rw [hn] at h
  rw [zK x hn]
  simp only at h ⊢
  split at h
  ·rename_i h1
   rw [cQ x (cD h1),if_pos h1,dW x (cD h1)]; exact KM x h
  ·rename_i h1
   split at h
   ·rename_i h2
    rw [cQ x (cD h2),cQ x (cD h2),if_neg h1,if_pos h2,dW x (cD h2)]; exact KM x h
   ·cases h
theorem K0 {nm:Str}:∀ (f:Nat) (acc:List bI) {t u:List Kt}{a:cN} (x:List Kt),mV nm f acc t=.ok a u→mV nm f acc (t ++ x)=.ok a (u ++ x)
 | 0,acc,t,u,a,x,h=>by
  unfold mV at h
  split at h <;> cases h
 | f + 1,acc,t,u,a,x,h=>by
  unfold mV at h ⊢
  cases hn:mB acc.length t with
  | er v e=>rw [hn] at h; cases h
  | ok m v=>
   rw [hn] at h
   rw [N4 x hn]
   simp only at h ⊢
   split at h
   ·rename_i h1
    rw [cQ x (cD h1),if_pos h1,dW x (cD h1)]; cases h; rfl
   ·rename_i h1
    split at h
    ·rename_i h2
     rw [cQ x (cD h2),cQ x (cD h2),if_neg h1,if_pos h2,dW x (cD h2)]; exact K0 f _ x h
    ·cases h
theorem Rn {t u:List Kt}{a:cN} (x:List Kt) (h:vQ t=.ok a u) (hu:u ≠ []):vQ (t ++ x)=.ok a (u ++ x):=by
 unfold vQ at h ⊢
 cases hn:jS t with
 | er v e=>rw [hn] at h; cases h
 | ok nm v=>
  rw [hn] at h
  rw [zK x hn]
  simp only at h ⊢
  split at h
  ·rename_i h1
   rw [cQ x (cD h1),if_pos h1,dW x (cD h1)]
   split at h
   ·rename_i h2
    rw [cQ x (cD h2),if_pos h2,dW x (cD h2)]; cases h; rfl
   ·rename_i h2
    have hne:v.tail ≠ []:=by
     intro e; rw [e] at h; unfold mV at h; cases h
    rw [cQ x hne,if_neg h2]; exact K0 _ _ x h
  ·rename_i h1
   cases h
   rw [cQ x hu,if_neg h1]
theorem FQ {t u:List Kt}{a:bX} (x:List Kt) (h:oG t=.ok a u):oG (t ++ x)=.ok a (u ++ x):=by
 unfold oG at h ⊢
 cases hn:vQ t with
 | er v e=>rw [hn] at h; cases h
 | ok s v=>
  rw [hn] at h
  simp only at h
  split at h
  ·cases h
  ·rename_i h1
   have hv:v ≠ []:=by intro e; rw [e] at h1; exact h1 rfl
   rw [Rn x hn hv]
   simp only
   rw [Td x hv,if_neg h1,dW x hv]
   exact QZ x h
theorem Ef:∀ (f:Nat) {t u:List Kt}{a:bX} (x:List Kt),fL f t=.ok a u→fL f (t ++ x)=.ok a (u ++ x)
 | 0,t,u,a,x,h=>by
  unfold fL at h ⊢
  split at h
  ·cases h
  ·rename_i h1
   have ht:t ≠ []:=by intro e; rw [e] at h; cases h
   rw [cQ x ht,if_neg h1]; exact FQ x h
 | f + 1,t,u,a,x,h=>by
  unfold fL at h ⊢
  split at h
  ·rename_i h1
   rw [cQ x (cD h1),if_pos h1,dW x (cD h1)]
   cases hn:fL f t.tail with
   | er v e=>rw [hn] at h; cases h
   | ok y v=>
    rw [hn] at h
    rw [Ef f x hn]
    simp only at h ⊢
    split at h
    ·rename_i h2
     rw [cQ x (cD h2),if_pos h2,dW x (cD h2)]; cases h; rfl
    ·cases h
  ·rename_i h1
   have ht:t ≠ []:=by intro e; rw [e] at h; cases h
   rw [cQ x ht,if_neg h1]; exact FQ x h
theorem KC {w:Str}{t u:List Kt}{a:Int} (x:List Kt) (h:rY w t=.ok a u) (hu:u ≠ []):rY w (t ++ x)=.ok a (u ++ x):=by
 unfold rY at h ⊢
 split at h
 ·rename_i h1
  rw [cQ x (cD h1),if_pos h1,dW x (cD h1)]; exact E8 x h
 ·rename_i h1
  cases h
  rw [cQ x hu,if_neg h1]
theorem Qp {t u:List Kt}{a:aQ} (x:List Kt) (h:kZ t=.ok a u):kZ (t ++ x)=.ok a (u ++ x):=by
 rcases t with _ | ⟨y,t⟩
 ·cases h
 ·simp only [kZ,List.cons_append] at h ⊢
  split at h
  ·rename_i h1
   rw [if_pos h1]
   split at h
   ·rename_i h2
    rw [cQ x (cD h2),if_pos h2,dW x (cD h2)]
    cases ht:t.tail with
    | nil=>rw [ht] at h; cases h
    | cons z r=>
     rw [ht] at h
     simp only [List.cons_append] at h ⊢
     split at h
     ·rename_i h3; rw [if_pos h3]; cases h; rfl
     ·cases h
   ·cases h
  ·cases h
theorem FD:∀ (f:Nat) (acc:List aQ) {t u:List Kt}{a:List aQ} (x:List Kt),lS f acc t=.ok a u→lS f acc (t ++ x)=.ok a (u ++ x)
 | 0,acc,t,u,a,x,h=>by cases h
 | f + 1,acc,t,u,a,x,h=>by
  unfold lS at h ⊢
  cases hn:kZ t with
  | er v e=>rw [hn] at h; cases h
  | ok m v=>
   rw [hn] at h
   rw [Qp x hn]
   simp only at h ⊢
   split at h
   ·rename_i h1
    rw [cQ x (cD h1),if_pos h1]; cases h; rfl
   ·rename_i h1
    split at h
    ·rename_i h2
     rw [cQ x (cD h2),cQ x (cD h2),if_neg h1,if_pos h2,dW x (cD h2)]; exact FD f _ x h
    ·cases h
theorem HQ {l a:List aQ}{u v:List Kt} (x:List Kt) (hu:u ≠ []) (h:t6 l u=.ok a v):t6 l (u ++ x)=.ok a (v ++ x):=by
 unfold t6 at h ⊢
 split at h
 ·rename_i h1
  rw [if_pos h1]
  split at h
  ·cases h
  ·rename_i h2; rw [if_neg h2,dW x hu]; cases h; rfl
 ·cases h
theorem Mi {t u:List Kt}{a:List aQ} (x:List Kt) (h:jU t=.ok a u):jU (t ++ x)=.ok a (u ++ x):=by
 unfold jU at h ⊢
 split at h
 ·rename_i h1
  rw [cQ x (cD h1),if_pos h1,dW x (cD h1)]
  by_cases h2:isT 4 [125] t.tail=true
  ·rw [if_pos h2] at h
   rw [cQ x (cD h2),if_pos h2]
   simp only at h ⊢
   exact HQ x (cD h2) h
  ·rw [if_neg h2] at h
   cases hn:pW [] t.tail with
   | er v e=>rw [hn] at h; cases h
   | ok l v=>
    rw [hn] at h
    simp only at h
    have hne:t.tail ≠ []:=by
     intro e; rw [e] at hn; cases hn
    have hv:v ≠ []:=cD (B6 _ _ _ _ _ hn)
    have hp:pW [] (t.tail ++ x)=.ok l (v ++ x):=by
     have hn2:lS ((t.tail ++ x).length + 1) [] t.tail=.ok l v:=by
      rw [zT _ (t.tail.length + 1) _ _ (by rw [List.length_append]; omega) (by omega)]; exact hn
     exact FD _ _ x hn2
    rw [cQ x hne,if_neg h2,hp]
    exact HQ x hv h
 ·cases h
theorem L0 {t u:List Kt}{a:List aQ} (x:List Kt) (h:kJ t=.ok a u) (hu:u ≠ []):kJ (t ++ x)=.ok a (u ++ x):=by
 unfold kJ at h ⊢
 split at h
 ·rename_i h1
  rw [cQ x (cD h1),if_pos h1,dW x (cD h1)]; exact Mi x h
 ·rename_i h1
  cases h
  rw [cQ x hu,if_neg h1]
theorem RX {α:Type}{t u:List Kt}{r:Pr α}{a:α}{Q:α→Prop}{m:Nat} (hf:bC t r Q m) (h:r=.ok a u) (hu:u ≠ []):t ≠ []:=by
 obtain ⟨_,⟨p,hp⟩,_⟩:=hf.ok a u h
 intro e; rw [e] at hp
 have:=List.append_eq_nil_iff.1 hp.symm
 exact hu this.2
theorem Qa {nm:Str}{y:bX}{t u:List Kt}{a:aR} (x:List Kt) (h:sC nm y t=.ok a u):sC nm y (t ++ x)=.ok a (u ++ x):=by
 unfold sC at h ⊢
 cases h1:rY kW t with
 | er v e=>rw [h1] at h; cases h
 | ok fr t1=>
  rw [h1] at h; simp only at h
  cases h2:rY jE t1 with
  | er v e=>rw [h2] at h; cases h
  | ok kp t2=>
   rw [h2] at h; simp only at h
   cases h3:kJ t2 with
   | er v e=>rw [h3] at h; cases h
   | ok l t3=>
    rw [h3] at h; simp only at h
    split at h
    ·rename_i h4
     have n3:=cD h4
     have n2:t2 ≠ []:=RX (CE t2) h3 n3
     have n1:t1 ≠ []:=RX (C3 _ t1) h2 n2
     rw [KC x h1 n1]; simp only
     rw [KC x h2 n2]; simp only
     rw [L0 x h3 n3]; simp only
     rw [cQ x n3,if_pos h4,dW x n3]; cases h; rfl
    ·cases h
theorem OX {t u:List Kt}{a:aR} (x:List Kt) (h:jC t=.ok a u):jC (t ++ x)=.ok a (u ++ x):=by
 unfold jC at h ⊢
 split at h
 ·rename_i h1
  rw [cQ x (cD h1),if_pos h1,dW x (cD h1)]
  cases h2:jS t.tail with
  | er v e=>rw [h2] at h; cases h
  | ok nm t1=>
   rw [h2] at h; simp only at h
   rw [zK x h2]; simp only
   split at h
   ·rename_i h3
    rw [cQ x (cD h3),if_pos h3,dW x (cD h3)]
    cases h4:wD t1.tail with
    | er v e=>rw [h4] at h; cases h
    | ok y t2=>
     rw [h4] at h; simp only at h
     rw [show wD (t1.tail ++ x)=.ok y (t2 ++ x) from Ef 32 x h4]; simp only
     exact Qa x h
   ·cases h
 ·cases h
def gN:Nat→List aR→List Kt→Pr (List aR)
 | 0,_,t=>.er t 0
 | f + 1,acc,t=>if isT 4 [125] t then .ok acc t.tail else if 16≤acc.length∧isT 1 m7 t=true then .er t 4 else match jC t with
  | .er u e=>.er u e
  | .ok r u=>if tL acc r.Name then .er t.tail 6 else gN f (acc ++ [r]) u
def nR (nm:Str) (d o:Int) (t:List Kt):Pr aI:=if isT 4 [123] t then (match gN 17 [] t.tail with
  | .er u e=>.er u e
  | .ok rs u=>.ok ⟨nm,d,o,rs⟩ u) else wr t
def BM (nm:Str) (d:Int) (u:List Kt):Pr aI:=if isT 1 nN u then (match eX u.tail with
  | .er v e=>.er v e
  | .ok o v=>if d≤o then .er u.tail 2 else nR nm d o v) else nR nm d 0 u
def uM (nm:Str) (t:List Kt):Pr aI:=if isT 1 j8 t then (match eX t.tail with
  | .er u e=>.er u e
  | .ok d u=>if d=0 then .er t.tail 2 else BM nm d u) else wr t
def i6 (ahead:List aI) (t:List Kt):Pr aI:=if isT 1 jN t then (if 16≤ahead.length then .er t 4 else match jS t.tail with
  | .er u e=>.er u e
  | .ok nm u=>if pJ ahead nm then .er t.tail 6 else uM nm u) else wr t
def cU:Nat→List aI→List Kt→Pr (List aI)
 | 0,_,t=>.er t 0
 | f + 1,acc,t=>if t=[] then .ok acc [] else match i6 acc t with
  | .er u e=>.er u e
  | .ok g u=>cU f (acc ++ [g]) u
def qD (t:List Kt):Pr (List aI):=cU (t.length + 1) [] t
theorem Dw {α:Type} (p:List α→α→Bool) (x:α):∀ (l a:List α),jI p a (l ++ [x])=(jI p a l && p (a ++ l) x)
 | [],a=>by simp [jI]
 | y :: l,a=>by simp only [List.cons_append,jI,Dw p x l,Bool.and_assoc,List.append_assoc,List.nil_append]
theorem EI (l:List aR) (r:aR):lM (l ++ [r])=(lM l && (eI r && !tL l r.Name)):=by
 unfold lM; rw [Dw]; rfl
theorem Ds (l:List aI) (g:aI):mD (l ++ [g])=(mD l && (dN g && !pJ l g.Name)):=by
 unfold mD; rw [Dw]; rfl
theorem Cb {t:List Kt} (h:t ≠ []):∃ y,t=[y] ++ t.tail:=by
 rcases t with _ | ⟨y,t⟩
 ·exact absurd rfl h
 ·exact ⟨y,rfl⟩
theorem Ed:∀ (f:Nat) (acc:List aR) (t:List Kt),acc.length + f=17→1≤f→lM acc=true→bC t (gN f acc t) (fun l=>l.length≤16∧lM l=true) 1
 | 0,_,_,_,h,_=>by omega
 | f + 1,acc,t,hl,_,hb=>by
  unfold gN
  split
  ·rename_i h1
   exact bC.okI (dL h1) (by simp) ⟨by omega,hb⟩
  ·split
   ·rename_i h2
    exact bC.erI (bQ _) (by simp [cD h2.2]) (by simp)
   ·rename_i h2
    have hf:=wO t
    cases hr:jC t with
    | er u e=>obtain ⟨_,⟨p,b⟩,c⟩:=hf.er u e hr; exact bC.erI b c.1 c.2
    | ok r u=>
     obtain ⟨h3,⟨p,b⟩,hq⟩:=hf.ok r u hr
     have hlen:=congrArg List.length b
     rw [List.length_append] at hlen
     have hne:t ≠ []:=by intro e; rw [e] at h3; simp at h3
     obtain ⟨y,hy⟩:=Cb hne
     simp only
     split
     ·refine bC.erI (p:=[y]) hy ?_ (by simp)
      constructor
      ·intro h; omega
      ·intro h
       have:=congrArg List.length h
       rw [List.length_tail] at this
       simp at this; omega
     ·rename_i h4
      have hrw:isT 1 m7 t=true:=by
       unfold jC at hr
       split at hr
       ·assumption
       ·cases hr
      have ha:acc.length < 16:=by
       rcases Nat.lt_or_ge acc.length 16 with h | h
       ·exact h
       ·exact absurd ⟨h,hrw⟩ h2
      exact bC.front b (by omega) (Ed f (acc ++ [r]) u (by simp; omega) (by omega) (by rw [EI,hb,hq]; simp [h4]))
theorem H8 {nm:Str}{d o:Int}{rs:List aR} (h1:cP nm=true) (h2:tmB d=true) (h3:d ≠ 0) (h4:0≤o) (h5:o < d) (h6:rs.length≤16) (h7:lM rs=true):dN ⟨nm,d,o,rs⟩=true:=by
 unfold dN
 simp only [h1,h2,h7,Bool.true_and,Bool.and_true,decide_eq_false h3,decide_eq_true h6,decide_eq_false (show ¬ o < 0 by omega),decide_eq_false (show ¬ d≤o by omega)]
 rfl
theorem F0 {nm:Str}{d o:Int} (h1:cP nm=true) (h2:tmB d=true) (h3:d ≠ 0) (h4:0≤o) (h5:o < d) (t:List Kt):bC t (nR nm d o t) (fun g=>dN g=true∧g.Name=nm) 2:=by
 unfold nR
 split
 ·rename_i h
  refine bC.front (dL h) (m:=1) (by simp) ?_
  rcases (Ed 17 [] t.tail rfl (by omega) rfl).split with ⟨u,e,p,hr,hp,h6,h0⟩ | ⟨rs,u,p,hr,hp,hl,hq⟩ <;> rw [hr] <;> dsimp only
  ·exact bC.erI hp h6 h0
  ·exact bC.okI hp hl ⟨H8 h1 h2 h3 h4 h5 hq.1 hq.2,rfl⟩
 ·exact bC.wrI (bQ _)
theorem Hn {t:List Kt}{u p:List Kt} (hp:t.tail=p ++ u) (hl:1≤p.length):t.tail ≠ []:=by
 intro e; rw [e] at hp
 have:=congrArg List.length hp
 rw [List.length_append] at this; simp at this; omega
theorem OM {nm:Str}{d:Int} (h1:cP nm=true) (h2:tmB d=true) (h3:d ≠ 0) (t:List Kt):bC t (BM nm d t) (fun g=>dN g=true∧g.Name=nm) 2:=by
 have hd:=kK.1 h2
 unfold BM
 split
 ·rename_i h
  refine bC.front (dL h) (m:=2) (by simp) ?_
  rcases (uK t.tail).split with ⟨u,e,p,hr,hp,h6,h0⟩ | ⟨o,u,p,hr,hp,hl,hq⟩ <;> rw [hr] <;> dsimp only
  ·exact bC.erI hp h6 h0
  ·split
   ·exact bC.erI (bQ _) (by simp [Hn hp hl]) (by simp)
   ·have ho:=kK.1 hq
    exact bC.front hp (by omega) (F0 h1 h2 h3 (by omega) (by omega) u)
 ·exact F0 h1 h2 h3 (by omega) (by omega) t
theorem EB {nm:Str} (h1:cP nm=true) (t:List Kt):bC t (uM nm t) (fun g=>dN g=true∧g.Name=nm) 2:=by
 unfold uM
 split
 ·rename_i h
  refine bC.front (dL h) (m:=2) (by simp) ?_
  rcases (uK t.tail).split with ⟨u,e,p,hr,hp,h6,h0⟩ | ⟨d,u,p,hr,hp,hl,hq⟩ <;> rw [hr] <;> dsimp only
  ·exact bC.erI hp h6 h0
  ·split
   ·exact bC.erI (bQ _) (by simp [Hn hp hl]) (by simp)
   ·rename_i hd
    exact bC.front hp (by omega) (OM h1 hq hd u)
 ·exact bC.wrI (bQ _)
theorem l7 (ahead:List aI) (t:List Kt):bC t (i6 ahead t) (fun g=>dN g=true∧pJ ahead g.Name=false∧ahead.length < 16) 2:=by
 unfold i6
 split
 ·rename_i h
  split
  ·exact bC.erI (bQ _) (by simp [cD h]) (by simp)
  ·rename_i h16
   refine bC.front (dL h) (m:=2) (by simp) ?_
   rcases (mR t.tail).split with ⟨u,e,p,hr,hp,h6,h0⟩ | ⟨nm,u,p,hr,hp,hl,hq⟩ <;> rw [hr] <;> dsimp only
   ·exact bC.erI hp h6 h0
   ·split
    ·exact bC.erI (bQ _) (by simp [Hn hp hl]) (by simp)
    ·rename_i hh
     exact (bC.front hp (by omega) (EB hq u)).mono (fun g hg=>⟨hg.1,by rw [hg.2]; simpa using hh,by omega⟩) (Nat.le_refl _)
 ·exact bC.wrI (bQ _)
theorem xZ:∀ (f:Nat) (acc:List aI) (t:List Kt),t.length < f→dE acc=true→(∀ u e,cU f acc t=.er u e→u.length≤t.length∧(∃ p,t=p ++ u)∧(e=3 ↔ u=[])∧e ≠ 0)∧(∀ a u,cU f acc t=.ok a u→u=[]∧dE a=true)
 | 0,_,_,h,_=>by omega
 | f + 1,acc,t,hl,hb=>by
  unfold cU
  split
  ·refine ⟨fun u e h=>(by cases h),fun a u h=>?_⟩
   cases h; exact ⟨rfl,hb⟩
  ·have hf:=l7 acc t
   cases hr:i6 acc t with
   | er u e=>
    refine ⟨fun u' e' h=>?_,fun a u h=>(by cases h)⟩
    cases h; exact hf.er u e hr
   | ok g u=>
    obtain ⟨h3,⟨p,b⟩,q1,q2,q3⟩:=hf.ok g u hr
    obtain ⟨hb1,hb2,_⟩:=cZ hb
    have hb':dE (acc ++ [g])=true:=by
     unfold dE
     rw [Ds,hb2,q1,q2,decide_eq_true (by simp; omega)]; rfl
    obtain ⟨k1,k2⟩:=xZ f (acc ++ [g]) u (by omega) hb'
    refine ⟨fun v e h=>?_,k2⟩
    obtain ⟨a1,⟨q,a2⟩,a3⟩:=k1 v e h
    exact ⟨by omega,⟨p ++ q,by rw [b,a2,List.append_assoc]⟩,a3⟩
theorem Fw:∀ (f:Nat) (acc:List aR) {t u:List Kt}{a:List aR} (x:List Kt),gN f acc t=.ok a u→gN f acc (t ++ x)=.ok a (u ++ x)
 | 0,_,_,_,_,_,h=>by cases h
 | f + 1,acc,t,u,a,x,h=>by
  unfold gN at h ⊢
  split at h
  ·rename_i h1
   rw [cQ x (cD h1),if_pos h1,dW x (cD h1)]; cases h; rfl
  ·rename_i h1
   split at h
   ·cases h
   ·rename_i h2
    cases hr:jC t with
    | er v e=>rw [hr] at h; cases h
    | ok r v=>
     rw [hr] at h; simp only at h
     have hne:t ≠ []:=by intro e; rw [e] at hr; cases hr
     rw [cQ x hne,if_neg h1,cQ x hne,if_neg h2,OX x hr]
     simp only
     split at h
     ·cases h
     ·rename_i h3; rw [if_neg h3]; exact Fw f _ x h
theorem Ih {nm:Str}{d o:Int}{t u:List Kt}{g:aI} (x:List Kt) (h:nR nm d o t=.ok g u):nR nm d o (t ++ x)=.ok g (u ++ x):=by
 unfold nR at h ⊢
 split at h
 ·rename_i h1
  rw [cQ x (cD h1),if_pos h1,dW x (cD h1)]
  cases hr:gN 17 [] t.tail with
  | er v e=>rw [hr] at h; cases h
  | ok rs v=>rw [hr] at h; simp only at h; rw [Fw 17 [] x hr]; cases h; rfl
 ·cases h
theorem QY {nm:Str}{d o:Int}{t u:List Kt}{g:aI} (h:nR nm d o t=.ok g u):t ≠ []:=by
 intro e; rw [e] at h; cases h
theorem RK {nm:Str}{d:Int}{t u:List Kt}{g:aI} (x:List Kt) (h:BM nm d t=.ok g u):BM nm d (t ++ x)=.ok g (u ++ x):=by
 unfold BM at h ⊢
 split at h
 ·rename_i h1
  rw [cQ x (cD h1),if_pos h1,dW x (cD h1)]
  cases hr:eX t.tail with
  | er v e=>rw [hr] at h; cases h
  | ok o v=>
   rw [hr] at h; simp only at h
   rw [E8 x hr]; simp only
   split at h
   ·cases h
   ·rename_i h2; rw [if_neg h2]; exact Ih x h
 ·rename_i h1
  rw [cQ x (QY h),if_neg h1]; exact Ih x h
theorem Oh {nm:Str}{t u:List Kt}{g:aI} (x:List Kt) (h:uM nm t=.ok g u):uM nm (t ++ x)=.ok g (u ++ x):=by
 unfold uM at h ⊢
 split at h
 ·rename_i h1
  rw [cQ x (cD h1),if_pos h1,dW x (cD h1)]
  cases hr:eX t.tail with
  | er v e=>rw [hr] at h; cases h
  | ok o v=>
   rw [hr] at h; simp only at h
   rw [E8 x hr]; simp only
   split at h
   ·cases h
   ·rename_i h2; rw [if_neg h2]; exact RK x h
 ·cases h
theorem Eu {a1 a2:List aI}{t u:List Kt}{g:aI} (x:List Kt) (h:i6 a1 t=.ok g u):i6 a2 (t ++ x)=if 16≤a2.length then .er (t ++ x) 4 else if pJ a2 g.Name then .er (t.tail ++ x) 6 else .ok g (u ++ x):=by
 have hq:=(l7 a1 t).ok g u h
 unfold i6 at h ⊢
 split at h
 ·rename_i h1
  rw [cQ x (cD h1),if_pos h1,dW x (cD h1)]
  split at h
  ·cases h
  ·cases hr:jS t.tail with
   | er v e=>rw [hr] at h; cases h
   | ok nm v=>
    rw [hr] at h; simp only at h
    rw [zK x hr]; simp only
    split at h
    ·cases h
    ·have hn:=((EB ((mR t.tail).ok nm v hr).2.2 v).ok g u h).2.2.2
     rw [Oh x h,hn]
 ·cases h
theorem j6 {α β:Type} (ks:List Nat) (w:List Obj) (enc:α→AV) (ob:α→List Obj) (a:α) (me:Flt→Option β) (m:α→Option β):eP ks w enc ob (some (.ok a)) me m=m a:=rfl
theorem fC {α β:Type} (ks:List Nat) (w:List Obj) (enc:α→AV) (ob:α→List Obj) (z:Flt) (me:Flt→Option β) (m:α→Option β):eP ks w enc ob (some (.error z)) me m=me z:=rfl
theorem HA {β:Type} (W:List Nat) (t:Tr) (m:Option β):Dg W t m=m:=rfl
theorem Jj {β:Type} (a b c:Nat) (m:Option β):Zy a b c m=m:=rfl
theorem AY {β:Type} (m:Option β):kB m=m:=rfl
def exR {α:Type} (l:List aL):Pr α→Except Flt (α × Int)
 | .er u e=>.error (iA l u,e)
 | .ok a u=>.ok (a,iA l u)
section
variable (l:List aL) (i:Nat) (f:List aI)
theorem UL (k:Int) (s:Str):iQ k s l (i:Int) f=some (isT k s (tks l i)):=by
 unfold iQ
 simp only [aZ,bL,aV]
 by_cases h:i < l.length
 ·rw [if_pos (by omega),bB (bO h),DD h]
  by_cases h1:(nth l i).K=k
  ·rw [if_pos h1,decide_eq_true h1,Bool.true_and]
  ·rw [if_neg h1,decide_eq_false h1,Bool.false_and]
 ·rw [if_neg (by omega),gK (by omega)]; rfl
theorem Ge (k:Int) (s:Str) (hl:l.length≤100000000):dD k s l (i:Int) f=some (isT k s (tks l i),if isT k s (tks l i) then ((i + 1:Nat):Int) else (i:Int)):=by
 unfold dD
 rw [UL,a7]
 simp only [aZ,bL]
 cases h:isT k s (tks l i)
 ·rfl
 ·have hlt:=eM h
  rw [aY,bF (by omega)]; rfl
theorem HG:eT l (i:Int) f=some (.error ((i:Int),wrE (tks l i))):=by
 unfold eT
 simp only [aZ,aV,AY,cO]
 by_cases h:i < l.length
 ·rw [if_neg (by omega),lF h]; rfl
 ·rw [if_pos (by omega),gK (by omega)]; rfl
theorem FY (k:Int) (s:Str) (hl:l.length≤100000000):cT k s l (i:Int) f=some (if isT k s (tks l i) then .ok ((i + 1:Nat):Int) else .error ((i:Int),wrE (tks l i))):=by
 unfold cT
 rw [Ge l i f k s hl,a7]
 simp only [aZ,bK]
 cases h:isT k s (tks l i)
 ·simp only [a6,Bool.false_eq_true,if_false]
  rw [HG,fC]; rfl
 ·simp only [aY,if_true]; try rfl
theorem Qi (k:Int) (hl:l.length≤100000000):gI k l (i:Int) f=some (if isK k (tks l i) then .ok ((nth l i).S,((i + 1:Nat):Int)) else .error ((i:Int),wrE (tks l i))):=by
 unfold gI
 simp only [aZ,aV,bK]
 by_cases h:i < l.length
 ·rw [if_neg (by omega),bB (bO h),rH h]
  by_cases h1:(nth l i).K=k
  ·rw [if_pos h1,decide_eq_true h1,bF (x:=(i:Int) + 1) (by omega),bF (x:=(i:Int) + 1 - 1) (by omega),show (i:Int) + 1 - 1=(i:Int) by omega,bB (bO h)]; rfl
  ·rw [if_neg h1,decide_eq_false h1,HG,fC]; rfl
 ·rw [if_pos (by omega),HG,fC,gK (by omega)]; rfl
theorem Ca:(∃ e,eX (tks l i)=.er (tks l i) e∧isK 2 (tks l i)=true∧(kV (nth l i).S).2=e∧e ≠ 0) ∨ (isK 2 (tks l i)=false∧eX (tks l i)=wr (tks l i)) ∨ (i < l.length∧isK 2 (tks l i)=true∧(kV (nth l i).S).2=0∧eX (tks l i)=.ok (kV (nth l i).S).1 (tks l (i + 1))):=by
 cases h:isK 2 (tks l i)
 ·exact .inr (.inl ⟨rfl,KI h⟩)
 ·have hd:=HM h
  by_cases h0:(kV (nth l i).S).2=0
  ·rw [if_pos h0] at hd; exact .inr (.inr ⟨kA h,rfl,h0,hd⟩)
  ·rw [if_neg h0] at hd; exact .inl ⟨_,hd,rfl,rfl,h0⟩
theorem Gv (hs:SmT l) (hi:i≤l.length):eO l (i:Int) f=some (exR l (eX (tks l i))):=by
 have hl:=hs.1
 unfold eO
 rw [Qi l i f 2 hl]
 rcases Ca l i with ⟨e,h1,h2,h3,h4⟩ | ⟨h1,h2⟩ | ⟨h1,h2,h3,h4⟩
 ·have hlt:=kA h2
  rw [if_pos h2,j6]
  simp only [aZ,bK,aV,AY]
  rw [rT _ (hs.2 _ (fN hlt)),aD,if_neg (by rw [h3]; exact h4),bF (by omega),h1]
  simp only [exR,bN hi,cO,h3]
  congr 3; omega
 ·rw [h1,if_neg (by simp),fC,h2]
  simp only [wr,exR,bN hi,cO]
 ·rw [if_pos h2,j6]
  simp only [aZ,bK,aV,AY]
  rw [rT _ (hs.2 _ (fN h1)),aD,if_pos h3,h4]
  simp only [exR,bN (show i + 1≤l.length by omega),okM]
def wT (acc:List aR) (t:List Kt):Pr aR:=if 16≤acc.length∧isT 1 m7 t=true then .er t 4 else match jC t with
  | .er u e=>.er u e
  | .ok r u=>if tL acc r.Name then .er t.tail 6 else .ok r u
theorem LB (n:Nat) (acc:List aR) (t:List Kt):gN (n + 1) acc t=if isT 4 [125] t then .ok acc t.tail else match wT acc t with
  | .er u e=>.er u e
  | .ok r u=>gN n (acc ++ [r]) u:=by
 conv=>lhs; unfold gN
 unfold wT
 by_cases h1:isT 4 [125] t=true
 ·rw [if_pos h1,if_pos h1]
 ·rw [if_neg h1,if_neg h1]
  by_cases h2:16≤acc.length∧isT 1 m7 t=true
  ·rw [if_pos h2,if_pos h2]
  ·rw [if_neg h2,if_neg h2]
   cases jC t with
   | er u e=>rfl
   | ok r u=>simp only; split <;> rfl
theorem Oq (acc:List aR) (t:List Kt):bC t (wT acc t) (fun r=>eI r=true∧tL acc r.Name=false∧acc.length < 16) 7:=by
 unfold wT
 split
 ·rename_i h2
  exact bC.erI (bQ _) (by simp [cD h2.2]) (by simp)
 ·rename_i h2
  have hf:=wO t
  cases hr:jC t with
  | er u e=>obtain ⟨_,⟨p,b⟩,c⟩:=hf.er u e hr; exact bC.erI b c.1 c.2
  | ok r u=>
   obtain ⟨h3,⟨p,b⟩,hq⟩:=hf.ok r u hr
   have hlen:=congrArg List.length b
   rw [List.length_append] at hlen
   have hne:t ≠ []:=by intro e; rw [e] at h3; simp at h3
   obtain ⟨y,hy⟩:=Cb hne
   simp only
   split
   ·refine bC.erI (p:=[y]) hy ?_ (by simp)
    constructor
    ·intro h; omega
    ·intro h
     have:=congrArg List.length h
     rw [List.length_tail] at this
     simp at this; omega
   ·rename_i h4
    have hrw:isT 1 m7 t=true:=by
     unfold jC at hr
     split at hr
     ·assumption
     ·cases hr
    have ha:acc.length < 16:=by
     rcases Nat.lt_or_ge acc.length 16 with h | h
     ·exact h
     ·exact absurd ⟨h,hrw⟩ h2
    exact bC.okI b (by omega) ⟨hq,by simpa using h4,ha⟩
theorem Qm (acc:List aR) (hs:SmT l) (hi:i≤l.length) (ha:acc.length≤16):gG acc l (i:Int) f=some (exR l (wT acc (tks l i))):=by
 have hl:=hs.1
 unfold gG
 simp only [aZ,QH,AY,Jj,aV,bK]
 have rest:(aN (fun x5=>AV.tup [(ag bA) x5.1,vI x5.2.1,vI x5.2.2]) (fun x5=>[Obj.box [sl aB l,vI (i:Int),so 1 aC f],.tok f.length 4 34 false,.box [vS ([]:Str),vS ([]:Str),.v (.slice none 0 0),vI (0:Int),vI (0:Int),vI (0:Int),vI (0:Int),.v (.slice none 0 0)]]) (m5 l (i:Int)) fun x5=>
   if x5.2.2=0 then aN vB (fun _=>([]:List Obj)) (jP acc x5.1.Name) fun x7=>aG x7 (cO (wI ((i:Int) + 1),(6:Int))) (okM (x5.1,x5.2.1)) else cO (x5.2.1,x5.2.2))=some (exR l (match jC (tks l i) with
  | .er u e=>.er u e
  | .ok r u=>if tL acc r.Name then .er (tks l i).tail 6 else .ok r u)):=by
  rw [I7 l i hs,aD]
  have hf:=(wO (tks l i)).toks hi
  rcases hf with ⟨e,j,hr,h1,h2,h3,h4⟩ | ⟨r,j,hr,h1,h2,h3⟩
  ·rw [hr,sY h2]
   simp only
   rw [if_neg h3]
   simp only [exR,bN h2,cO]
  ·rw [hr,GH h2]
   simp only [if_true]
   rw [zA _ _ (by omega),aD]
   cases hh:tL acc r.Name
   ·simp only [a6,Bool.false_eq_true,if_false,exR,bN h2]; try rfl
   ·simp only [aY,if_true,dK,exR,bN (show i + 1≤l.length by omega),cO]
    rw [bF (by omega)]; rfl
 unfold wT
 by_cases h16:(16:Int)≤(acc.length:Int)
 ·rw [if_pos h16,UL,a7]
  cases hT:isT 1 m7 (tks l i)
  ·rw [show isT 1 ([114,117,108,101]:Str) (tks l i)=false from hT,a6,xS]
   simp only [Option.bind_some,Sum.elim_inl,Bool.false_eq_true,and_false,if_false]
   exact rest
  ·rw [show isT 1 ([114,117,108,101]:Str) (tks l i)=true from hT,aY,if_pos ⟨by omega,rfl⟩]
   simp only [cO,wM,Option.bind_some,Sum.elim_inr,exR,bN hi]
 ·rw [if_neg h16,xS,if_neg (fun h=>h16 (by omega))]
  simp only [Option.bind_some,Sum.elim_inl]
  exact rest
end
def Pr.map {α β:Type} (g:α→β):Pr α→Pr β
 | .er u e=>.er u e
 | .ok a u=>.ok (g a) u
theorem Bu {ph:Int × List aR→List (Nat × AV)}{ob:Int × List aR→List Obj}{step:Int × List aR→Option (Int × List aR ⊕ Except Flt (aI × Int))} (l:List aL) (hs:SmT l) (mk:List aR→aI)
  (h1:∀ (i:Nat) (acc:List aR),i≤l.length→acc.length≤16→step ((i:Int),acc)=if isT 4 [125] (tks l i) then some (.inr (.ok (mk acc,((i + 1:Nat):Int)))) else match exR l (wT acc (tks l i)) with
   | .error z=>some (.inr (.error z))
   | .ok (r,j)=>some (.inl (j,acc ++ [r]))) :
  ∀ (n:Nat) (acc:List aR) (i:Nat),acc.length + n=17→1≤n→i≤l.length→bU ph ob step ((i:Int),acc)=some (exR l ((gN n acc (tks l i)).map mk))
 | 0,_,_,_,h,_=>by omega
 | n + 1,acc,i,hn,_,hi=>by
  have e:=h1 i acc hi (by omega)
  rw [LB]
  by_cases hT:isT 4 [125] (tks l i)=true
  ·have hlt:=eM hT
   rw [if_pos hT] at e ⊢
   rw [m0 e,dK]
   simp only [Pr.map,exR,bN (show i + 1≤l.length by omega)]
  ·rw [if_neg hT] at e ⊢
   rcases (Oq acc (tks l i)).toks hi with ⟨er,j,hr,_,h3,_,_⟩ | ⟨r,j,hr,h2,h3,_,_,h4⟩
   ·rw [hr] at e ⊢
    simp only [exR] at e
    rw [m0 e]; rfl
   ·rw [hr] at e ⊢
    simp only [exR,bN h3] at e
    rw [wP e]
    exact Bu l hs mk h1 n (acc ++ [r]) j (by simp; omega) (by omega) h3
theorem SV (l:List aL) (i:Nat) (f:List aI) (hs:SmT l) (hi:i≤l.length) (hf:f.length≤1000):iH l (i:Int) f=some (exR l (i6 f (tks l i))):=by
 have hl:=hs.1
 have e1:cT (1:Int) ([103,114,111,117,112]:Str) l (i:Int) f=_:=FY l i f 1 jN hl
 unfold iH i6
 simp only [aZ,fY,aV,bK,AY,i7,GV,OO]
 rw [e1]
 cases h1:isT 1 jN (tks l i)
 ·rw [if_neg (by simp),if_neg (by simp),fC]
  simp only [wr,exR,bN hi,cO]
 have k1:=eM h1
 rw [if_pos rfl,if_pos rfl,j6,dK]
 by_cases h16:16≤f.length
 ·rw [if_pos (by omega),if_pos h16,bF (by omega)]
  simp only [exR,bN hi,cO]
  congr 3; omega
 rw [if_neg (by omega),if_neg h16,Qi l (i + 1) f 1 hl]
 cases h2:isK 1 (tks l (i + 1))
 ·rw [if_neg (by simp),fC,HL h2]
  simp only [wr,exR,bN (show i + 1≤l.length by omega),cO]
 have k2:=kA h2
 rw [if_pos rfl,j6,E5 h2]
 simp only
 rw [iU,aD]
 cases h3:cP (nth l (i + 1)).S
 ·rw [a6,if_neg (by simp),bF (by omega)]
  simp only [exR,bN (show i + 1≤l.length by omega),cO]
  congr 3; omega
 rw [aY,if_pos rfl,xL _ _ (by omega),aD]
 simp only
 cases h4:pJ f (nth l (i + 1)).S
 ·rw [a6,if_neg (by simp)]
  have e2:cT (1:Int) ([101,118,101,114,121]:Str) l ((i + 1 + 1:Nat):Int) f=_:=FY l (i + 1 + 1) f 1 j8 hl
  unfold uM
  rw [e2]
  cases h5:isT 1 j8 (tks l (i + 1 + 1))
  ·rw [if_neg (by simp),if_neg (by simp),fC]
   simp only [wr,exR,bN (show i + 1 + 1≤l.length by omega),cO]
  have k5:=eM h5
  rw [if_pos rfl,if_pos rfl,j6,dK,Gv l (i + 1 + 1 + 1) f hs (by omega)]
  rcases Ca l (i + 1 + 1 + 1) with ⟨e,d1,d2,d3,d4⟩ | ⟨d1,d2⟩ | ⟨d1,d2,d3,d4⟩
  ·rw [d1]
   simp only [exR]
   rw [fC]; rfl
  ·rw [d2]
   simp only [exR,wr]
   rw [fC]; rfl
  rw [d4]
  simp only [exR,bN (show i + 1 + 1 + 1 + 1≤l.length by omega)]
  rw [j6]
  simp only
  generalize (kV (nth l (i + 1 + 1 + 1)).S).1=d
  by_cases h0:d=0
  ·rw [if_pos h0,if_pos h0,bF (by omega)]
   simp only [bN (show i + 1 + 1 + 1≤l.length by omega),cO]
   congr 3; omega
  rw [if_neg h0,if_neg h0]
  have e3:dD (1:Int) ([111,102,102,115,101,116]:Str) l ((i + 1 + 1 + 1 + 1:Nat):Int) f=_:=Ge l (i + 1 + 1 + 1 + 1) f 1 nN hl
  unfold BM
  rw [e3,a7]
  cases h6:isT 1 nN (tks l (i + 1 + 1 + 1 + 1))
  ·simp only [a6,Bool.false_eq_true,if_false]
   have e4:cT (4:Int) ([123]:Str) l ((i + 1 + 1 + 1 + 1:Nat):Int) f=_:=FY l (i + 1 + 1 + 1 + 1) f 4 [123] hl
   unfold nR
   rw [e4]
   cases h7:isT 4 [123] (tks l (i + 1 + 1 + 1 + 1))
   ·rw [if_neg (by simp),if_neg (by simp),fC]
    simp only [wr,exR,bN (show i + 1 + 1 + 1 + 1≤l.length by omega),cO]
   ·have k7:=eM h7
    rw [if_pos rfl,if_pos rfl,j6,dK]
    refine (Bu l hs (fun rs=>(⟨(nth l (i + 1)).S,d,0,rs⟩:aI)) ?_ 17 [] (i + 1 + 1 + 1 + 1 + 1) rfl (by omega) (by omega)).trans ?_
    ·intro j acc hj ha
     have e5:dD (4:Int) ([125]:Str) l (j:Int) f=_:=Ge l j f 4 [125] hl
     simp only
     rw [e5,a7]
     cases h8:isT 4 [125] (tks l j)
     ·simp only [a6,Bool.false_eq_true,if_false,HA]
      rw [Qm l j f acc hs hj ha]
      cases hx:exR l (wT acc (tks l j)) with
      | error z=>rw [fC]; rfl
      | ok z=>rw [j6,aP (by simp; omega)]; rfl
     ·simp only [aY,if_true]; try rfl
    ·cases gN 17 [] (tks l (i + 1 + 1 + 1 + 1 + 1)) <;> rfl
  ·have k6:=eM h6
   simp only [aY,if_true]
   rw [dK,Gv l (i + 1 + 1 + 1 + 1 + 1) f hs (by omega)]
   rcases Ca l (i + 1 + 1 + 1 + 1 + 1) with ⟨e,d1,d2,d3,d4⟩ | ⟨d1,d2⟩ | ⟨d1,d2,d3,d4⟩
   ·rw [d1]
    simp only [exR]
    rw [fC]; rfl
   ·rw [d2]
    simp only [exR,wr]
    rw [fC]; rfl
   rw [d4]
   simp only [exR,bN (show i + 1 + 1 + 1 + 1 + 1 + 1≤l.length by omega)]
   rw [j6]
   simp only
   generalize (kV (nth l (i + 1 + 1 + 1 + 1 + 1)).S).1=o
   by_cases h9:d≤o
   ·rw [if_pos h9,if_pos h9,bF (by omega)]
    simp only [bN (show i + 1 + 1 + 1 + 1 + 1≤l.length by omega),cO]
    congr 3; omega
   rw [if_neg h9,if_neg h9]
   have e4:cT (4:Int) ([123]:Str) l ((i + 1 + 1 + 1 + 1 + 1 + 1:Nat):Int) f=_:=FY l (i + 1 + 1 + 1 + 1 + 1 + 1) f 4 [123] hl
   unfold nR
   rw [e4]
   cases h7:isT 4 [123] (tks l (i + 1 + 1 + 1 + 1 + 1 + 1))
   ·rw [if_neg (by simp),if_neg (by simp),fC]
    simp only [wr,exR,bN (show i + 1 + 1 + 1 + 1 + 1 + 1≤l.length by omega),cO]
   ·have k7:=eM h7
    rw [if_pos rfl,if_pos rfl,j6,dK]
    refine (Bu l hs (fun rs=>(⟨(nth l (i + 1)).S,d,o,rs⟩:aI)) ?_ 17 [] (i + 1 + 1 + 1 + 1 + 1 + 1 + 1) rfl (by omega) (by omega)).trans ?_
    ·intro j acc hj ha
     have e5:dD (4:Int) ([125]:Str) l (j:Int) f=_:=Ge l j f 4 [125] hl
     simp only
     rw [e5,a7]
     cases h8:isT 4 [125] (tks l j)
     ·simp only [a6,Bool.false_eq_true,if_false,HA]
      rw [Qm l j f acc hs hj ha]
      cases hx:exR l (wT acc (tks l j)) with
      | error z=>rw [fC]; rfl
      | ok z=>rw [j6,aP (by simp; omega)]; rfl
     ·simp only [aY,if_true]; try rfl
    ·cases gN 17 [] (tks l (i + 1 + 1 + 1 + 1 + 1 + 1 + 1)) <;> rfl
 ·rw [aY,if_pos rfl,bF (by omega)]
  simp only [exR,bN (show i + 1≤l.length by omega),cO]
  congr 3; omega
theorem P9 {α β:Type} (sl:List (Nat × AV)) (ob:List Obj) (a:α) (m:α→Option β):NQ sl ob (some a) m=m a:=rfl
theorem Sy {β:Type} (i k:Nat) (m:Option β):QR i k m=m:=rfl
theorem Te {β:Type} (m:Option β):Lc m=m:=rfl
def xD (l:List aL) (u:List Kt) (n:Int):Int:=if iA l u < (l.length:Int) then (nth l (iA l u).toNat).At else n
def Fu (l:List aL) (n:Int):Pr (List aI)→List aI × Int × Int
 | .ok f _=>(f,n,0)
 | .er u e=>([],xD l u n,e)
theorem PF (l:List aL) (u:List Kt) (e:Int) (hu:u.length≤l.length) (s:Str) (f:List aI) (a b:Int):mK (iA l u,e) s f a b l=some ([],xD l u s.length,e):=by
 unfold mK xD
 simp only [Te,qJ,aZ,aV,bL]
 by_cases h:iA l u < (l.length:Int)
 ·have h0:0≤iA l u:=by unfold iA; omega
  rw [if_pos h,if_pos h,iP h0 (bO (by omega))]
 ·rw [if_neg h,if_neg h]
theorem Ek {ph:Int × List aI→List (Nat × AV)}{ob:Int × List aI→List Obj}{step:Int × List aI→Option (Int × List aI ⊕ List aI × Int × Int)} (l:List aL) (n0:Int)
  (h1:∀ (i:Nat) (acc:List aI),i≤l.length→acc.length≤16→step ((i:Int),acc)=if i < l.length then (match i6 acc (tks l i) with
   | .er u e=>some (.inr ([],xD l u n0,e))
   | .ok g u=>some (.inl (iA l u,acc ++ [g]))) else some (.inr (acc,n0,0))) :
  ∀ (n:Nat) (acc:List aI) (i:Nat),l.length - i < n→i≤l.length→acc.length≤16→bU ph ob step ((i:Int),acc)=some (Fu l n0 (cU n acc (tks l i)))
 | 0,_,_,h,_,_=>by omega
 | n + 1,acc,i,hn,hi,ha=>by
  have e:=h1 i acc hi ha
  unfold cU
  by_cases hl:i < l.length
  ·rw [if_pos hl] at e
   rw [if_neg (by rw [lF hl]; simp)]
   rcases (l7 acc (tks l i)).toks hi with ⟨er,j,hr,_,h3,_,_⟩ | ⟨g,j,hr,h2,h3,_,_,h4⟩
   ·rw [hr] at e ⊢
    rw [m0 e]; rfl
   ·rw [hr] at e ⊢
    simp only [bN h3] at e
    rw [wP e]
    exact Ek l n0 h1 n (acc ++ [g]) j (by omega) h3 (by simp; omega)
  ·rw [if_neg hl] at e
   rw [m0 e,if_pos (gK (by omega))]; rfl
def dM (s:Str):List aI × Int × Int:=if (eK s).2.2=0 then Fu (eK s).1 s.length (qD ((eK s).1.map kv)) else ([],(eK s).2.1,(eK s).2.2)
theorem Cn (s:Str) (l:List aL) (n e:Int) (hx:oZ s=some (l,n,e)) (hsm:SmT l):dP s=some (if e=0 then Fu l s.length (qD (l.map kv)) else ([],n,e)):=by
 have hl:=hsm.1
 unfold dP
 rw [hx,aD]
 simp only [aZ,fY,bK,aV,HA,Sy,GV,OO,qJ,bL]
 by_cases h0:e=0
 ·rw [if_pos h0,if_pos h0]
  refine (Ek l (s.length:Int) ?_ (l.length + 1) [] 0 (by omega) (by omega) (by simp)).trans (by rw [Ra]; unfold qD; rw [List.length_map])
  intro i acc hi ha
  simp only
  by_cases hlt:i < l.length
  ·rw [if_pos (by omega),if_pos hlt,SV l i acc hsm hi (by omega)]
   rcases (l7 acc (tks l i)).toks hi with ⟨er,j,hr,_,h3,_,_⟩ | ⟨g,j,hr,h2,h3,_,_,h4⟩
   ·rw [hr]
    simp only [exR]
    rw [fC,PF l _ _ (by rw [DP]; omega),P9]
    rfl
   ·rw [hr]
    simp only [exR]
    rw [j6,aP (by simp; omega)]; rfl
  ·rw [if_neg (by omega),if_neg hlt]; rfl
 ·rw [if_neg h0,if_neg h0]
theorem jY (s:Str) (hs:s.length≤60000):dP s=some (dM s):=by
 obtain ⟨f1,f2,f3,f4⟩:=FH s
 exact Cn s _ _ _ (NI s hs) ⟨by omega,fun x hx=>by have:=f2 x hx; omega⟩
theorem sN (s:Str):((dM s).2.2=0→(dM s).2.1=s.length∧dE (dM s).1=true)∧((dM s).2.2 ≠ 0→(dM s).1=[]∧0≤(dM s).2.1∧(dM s).2.1≤s.length∧((dM s).2.1=s.length ↔ (dM s).2.2=3)):=by
 obtain ⟨f1,f2,f3,f4⟩:=FH s
 unfold dM
 by_cases h0:(eK s).2.2=0
 ·rw [if_pos h0]
  generalize (eK s).1=l at *
  obtain ⟨k1,k2⟩:=xZ ((l.map kv).length + 1) [] (l.map kv) (by omega) (by decide)
  unfold qD
  cases hr:cU ((l.map kv).length + 1) [] (l.map kv) with
  | ok f u=>exact ⟨fun _=>⟨rfl,(k2 f u hr).2⟩,fun h=>absurd rfl h⟩
  | er u e=>
   obtain ⟨a1,a2,a3,a4⟩:=k1 u e hr
   rw [List.length_map] at a1
   refine ⟨fun h=>absurd h a4,fun _=>⟨rfl,?_⟩⟩
   simp only [Fu,xD]
   by_cases hp:iA l u < (l.length:Int)
   ·have hp0:0≤iA l u:=by unfold iA; omega
    have:=f2 _ (fN (show (iA l u).toNat < l.length by omega))
    rw [if_pos hp]
    refine ⟨this.1,by omega,?_⟩
    rw [a3]
    constructor
    ·intro h; omega
    ·intro h
     exfalso
     unfold iA at hp; rw [h] at hp; simp at hp
   ·rw [if_neg hp]
    refine ⟨by omega,by omega,fun _=>?_,fun _=>rfl⟩
    rw [a3]
    unfold iA at hp
    exact List.eq_nil_of_length_eq_zero (by omega)
 ·rw [if_neg h0]
  have:=f4 h0
  refine ⟨fun h=>absurd h h0,fun _=>⟨rfl,by simp only; omega,by simp only; omega,?_⟩⟩
  constructor
  ·intro h; simp only at h; omega
  ·intro h; exact absurd h this.2
def rlK:List aR→List Kt
 | []=>[]
 | r :: l=>sV r ++ rlK l
def kY (g:aI):List Kt:=(1,jN) :: (1,g.Name) :: (1,j8) :: (2,printD g.Interval) :: (n9 nN g.Offset ++ ((4,[123]) :: rlK g.Rules))
def oB (g:aI):List Kt:=kY g ++ [(4,[125])]
def nS:List aI→List Kt
 | []=>[]
 | g :: f=>oB g ++ nS f
def headS (g:aI):Str:=jN ++ (32 :: (g.Name ++ (32 :: (j8 ++ (32 :: (printD g.Interval ++ (optS nN g.Offset ++ (32 :: 123 :: 10 :: rlS g.Rules))))))))
theorem Ad (g:aI):groupS g=headS g ++ [125,10]:=by simp [groupS,headS]
theorem LX.rlS:∀ (l:List aR) {t:Str}{ks:List Kt},(∀ r ∈ l,eI r=true)→LX t ks→LX (Go.Proofs.YthgenmkengbmmaaGreatDoor.AM.rlS l ++ t) (rlK l ++ ks)
 | [],t,ks,_,h=>h
 | r :: l,t,ks,hr,h=>by
  have ih:=LX.rlS l (fun x hx=>hr x (by simp [hx])) h
  simp only [Go.Proofs.YthgenmkengbmmaaGreatDoor.AM.rlS,rlK,List.cons_append,List.append_assoc]
  exact LX.sp (by decide) (LX.sp (by decide) (LX.ruleS (hr r (by simp)) (LX.sp (by decide) ih)))
theorem Pe {g:aI} (h:dN g=true):tmB g.Offset=true:=by
 obtain ⟨_,h2,_,h4,h5,_⟩:=fR h
 have:=kK.1 h2
 exact kK.2 (by omega)
theorem LX.headS {g:aI}{t:Str}{ks:List Kt} (hg:dN g=true) (h:LX t ks):LX (Go.Proofs.YthgenmkengbmmaaGreatDoor.AM.headS g ++ t) (kY g ++ ks):=by
 obtain ⟨h1,h2,h3,h4,h5,h6,h7,h8⟩:=fR hg
 unfold Go.Proofs.YthgenmkengbmmaaGreatDoor.AM.headS kY
 simp only [List.cons_append,List.append_assoc]
 have e1:=LX.sp (c:=32) (by decide) (LX.sign1 (c:=123) (by decide) (by decide) (LX.sp (c:=10) (by decide) (LX.rlS g.Rules h8 h)))
 have o1:Off (isR true) (32 :: 123 :: 10 :: (Go.Proofs.YthgenmkengbmmaaGreatDoor.AM.rlS g.Rules ++ t)):=Off.cons (by decide)
 have e2:=LX.optS (w:=nN) (by decide) (Pe hg) o1 e1
 have o2:=HB nN g.Offset _ o1
 refine LX.name (s:=jN) (by decide) (Off.cons (by decide)) (LX.sp (by decide) ?_)
 refine LX.name h1 (Off.cons (by decide)) (LX.sp (by decide) ?_)
 refine LX.name (s:=j8) (by decide) (Off.cons (by decide)) (LX.sp (by decide) ?_)
 exact LX.printD h2 o2 e2
theorem LX.groupS {g:aI}{t:Str}{ks:List Kt} (hg:dN g=true) (h:LX t ks):LX (Go.Proofs.YthgenmkengbmmaaGreatDoor.AM.groupS g ++ t) (oB g ++ ks):=by
 have e:=LX.headS hg (LX.sign1 (c:=125) (by decide) (by decide) (LX.sp (c:=10) (by decide) h))
 rw [Ad,List.append_assoc]
 unfold oB
 rw [List.append_assoc]
 exact e
theorem LX.fileS:∀ (f:List aI) {t:Str}{ks:List Kt},(∀ g ∈ f,dN g=true)→LX t ks→LX (Go.Proofs.YthgenmkengbmmaaGreatDoor.AM.fileS f ++ t) (nS f ++ ks)
 | [],t,ks,_,h=>h
 | g :: f,t,ks,hg,h=>by
  have ih:=LX.fileS f (fun x hx=>hg x (by simp [hx])) h
  simp only [Go.Proofs.YthgenmkengbmmaaGreatDoor.AM.fileS,nS,List.append_assoc]
  exact LX.groupS (hg g (by simp)) ih
theorem Fh {α:Type} (p:List α→α→Bool):∀ (l m a:List α),jI p a (l ++ m)=(jI p a l && jI p (a ++ l) m)
 | [],m,a=>by simp [jI]
 | y :: l,m,a=>by simp only [List.cons_append,jI,Fh p l m,Bool.and_assoc,List.append_assoc,List.nil_append]
theorem Gt {a l:List aR}{r:aR} (h:lM (a ++ r :: l)=true):eI r=true∧tL a r.Name=false:=by
 unfold lM at h
 rw [Fh] at h
 simp only [jI,Bool.and_eq_true,List.nil_append,Bool.not_eq_true'] at h
 exact h.2.1
theorem t8 {a l:List aI}{g:aI} (h:mD (a ++ g :: l)=true):dN g=true∧pJ a g.Name=false:=by
 unfold mD at h
 rw [Fh] at h
 simp only [jI,Bool.and_eq_true,List.nil_append,Bool.not_eq_true'] at h
 exact h.2.1
theorem GI (r:aR):∃ u,sV r=(1,m7) :: u:=⟨_,rfl⟩
theorem Eb:∀ (rs:List aR) (n:Nat) (acc:List aR) (x:List Kt),acc.length + n=17→(acc ++ rs).length≤16→lM (acc ++ rs)=true→gN n acc (rlK rs ++ (4,[125]) :: x)=.ok (acc ++ rs) x
 | _,0,acc,x,hn,hl,_=>by rw [List.length_append] at hl; omega
 | [],n + 1,acc,x,hn,hl,hb=>by
  unfold gN
  simp only [rlK,List.nil_append,List.append_nil,eH,if_true,List.tail_cons]
 | r :: l,n + 1,acc,x,hn,hl,hb=>by
  obtain ⟨h1,h2⟩:=Gt hb
  obtain ⟨u,hu⟩:=GI r
  have hl':acc.length + (l.length + 1)≤16:=by simpa using hl
  unfold gN
  simp only [rlK,List.append_assoc]
  rw [show isT 4 [125] (sV r ++ (rlK l ++ (4,[125]) :: x))=false from by rw [hu]; exact lT _ (.inr (by decide))]
  rw [if_neg (by simp),if_neg (fun h=>by omega),Gn h1]
  simp only [h2,Bool.false_eq_true,if_false]
  rw [Eb l n (acc ++ [r]) x (by simp; omega) (by simp; omega) (by simpa using hb)]
  simp
theorem CH:∀ (rs:List aR) (n:Nat) (acc:List aR),acc.length + n=17→(acc ++ rs).length≤16→lM (acc ++ rs)=true→gN n acc (rlK rs)=.er [] 3
 | _,0,acc,hn,hl,_=>by rw [List.length_append] at hl; omega
 | [],n + 1,acc,hn,hl,hb=>by
  unfold gN
  simp only [rlK,isT,Bool.false_eq_true,if_false,and_false]
  rfl
 | r :: l,n + 1,acc,hn,hl,hb=>by
  obtain ⟨h1,h2⟩:=Gt hb
  obtain ⟨u,hu⟩:=GI r
  have hl':acc.length + (l.length + 1)≤16:=by simpa using hl
  show gN (n + 1) acc (sV r ++ rlK l)=_
  unfold gN
  rw [show isT 4 [125] (sV r ++ rlK l)=false from by rw [hu]; exact lT _ (.inr (by decide))]
  rw [if_neg (by simp),if_neg (fun h=>by omega),Gn h1]
  simp only [h2,Bool.false_eq_true,if_false]
  exact CH l n (acc ++ [r]) (by simp; omega) (by simp; omega) (by simpa using hb)
theorem Pz {g:aI} (hg:dN g=true) (x:List Kt):BM g.Name g.Interval (n9 nN g.Offset ++ (4,[123]) :: x)=nR g.Name g.Interval g.Offset ((4,[123]) :: x):=by
 have ho:=Pe hg
 have h0:=kK.1 ho
 obtain ⟨_,_,_,_,h5,_⟩:=fR hg
 unfold BM n9
 by_cases hp:0 < g.Offset
 ·rw [if_pos hp]
  simp only [List.cons_append,List.nil_append]
  simp only [eH,if_true,List.tail_cons,eX,E7 ho]
  rw [if_neg (by omega)]
 ·rw [if_neg hp,List.nil_append,lT _ (.inr (by decide))]
  simp only [Bool.false_eq_true,if_false]
  rw [show g.Offset=0 by omega]
theorem Ez {ahead:List aI}{g:aI} (hg:dN g=true) (h16:ahead.length < 16) (hn:pJ ahead g.Name=false) (x:List Kt) :
  i6 ahead (kY g ++ x)=nR g.Name g.Interval g.Offset ((4,[123]) :: (rlK g.Rules ++ x)):=by
 obtain ⟨h1,h2,h3,h4,h5,h6,h7,h8⟩:=fR hg
 unfold i6 kY
 simp only [List.cons_append,List.append_assoc]
 simp only [eH,if_true,List.tail_cons]
 rw [if_neg (by omega),wJ h1]
 simp only [hn,Bool.false_eq_true,if_false]
 unfold uM
 simp only [eH,if_true,List.tail_cons,eX,E7 h2]
 rw [if_neg h3]
 exact Pz hg _
theorem Et {ahead:List aI}{g:aI} (hg:dN g=true) (h16:ahead.length < 16) (hn:pJ ahead g.Name=false) (x:List Kt):i6 ahead (oB g ++ x)=.ok g x:=by
 obtain ⟨h1,h2,h3,h4,h5,h6,h7,h8⟩:=fR hg
 unfold oB
 rw [List.append_assoc,Ez hg h16 hn]
 unfold nR
 simp only [eH,if_true,List.tail_cons,List.cons_append,List.nil_append]
 rw [Eb g.Rules 17 [] x rfl (by simpa using h6) (by simpa using h7)]
 simp
theorem Ly {ahead:List aI}{g:aI} (hg:dN g=true) (h16:ahead.length < 16) (hn:pJ ahead g.Name=false):i6 ahead (kY g)=.er [] 3:=by
 obtain ⟨h1,h2,h3,h4,h5,h6,h7,h8⟩:=fR hg
 have:=Ez hg h16 hn []
 rw [List.append_nil,List.append_nil] at this
 rw [this]
 unfold nR
 simp only [eH,if_true,List.tail_cons]
 rw [CH g.Rules 17 [] rfl (by simpa using h6) (by simpa using h7)]
theorem HS (g:aI) (x:List Kt):oB g ++ x ≠ []:=by unfold oB kY; simp
theorem Rz (g:aI):kY g ≠ []:=by unfold kY; simp
theorem CU:∀ (f:List aI) (n:Nat) (acc:List aI),f.length < n→dE (acc ++ f)=true→cU n acc (nS f)=.ok (acc ++ f) []
 | _,0,_,h,_=>by omega
 | [],n + 1,acc,h,hb=>by
  show cU (n + 1) acc []=_
  unfold cU
  rw [if_pos rfl,List.append_nil]
 | g :: f,n + 1,acc,h,hb=>by
  obtain ⟨b1,b2,_⟩:=cZ hb
  obtain ⟨h1,h2⟩:=t8 b2
  have hl:acc.length + (f.length + 1)≤16:=by simpa using b1
  simp only [List.length_cons] at h
  show cU (n + 1) acc (oB g ++ nS f)=_
  unfold cU
  rw [if_neg (HS _ _),Et h1 (by omega) h2]
  simp only
  rw [CU f n (acc ++ [g]) (by omega) (by simpa using hb)]
  simp
theorem Cs:∀ (f:List aI) (n:Nat) (acc:List aI) (g:aI),f.length + 1 < n→dE (acc ++ (f ++ [g]))=true→cU n acc (nS f ++ kY g)=.er [] 3
 | _,0,_,_,h,_=>by omega
 | [],n + 1,acc,g,h,hb=>by
  obtain ⟨b1,b2,_⟩:=cZ hb
  obtain ⟨h1,h2⟩:=t8 b2
  have hl:acc.length + 1≤16:=by simpa using b1
  show cU (n + 1) acc (kY g)=_
  unfold cU
  rw [if_neg (Rz g),Ly h1 (by omega) h2]
 | k :: f,n + 1,acc,g,h,hb=>by
  obtain ⟨b1,b2,_⟩:=cZ hb
  obtain ⟨h1,h2⟩:=t8 b2
  have hl:acc.length + (f.length + 1 + 1)≤16:=by simpa using b1
  simp only [List.length_cons] at h
  show cU (n + 1) acc ((oB k ++ nS f) ++ kY g)=_
  rw [List.append_assoc]
  unfold cU
  rw [if_neg (HS _ _),Et h1 (by omega) h2]
  simp only
  exact Cs f n (acc ++ [k]) g (by omega) (by simpa using hb)
theorem Fr:∀ f:List aI,f.length≤(nS f).length
 | []=>by simp
 | g :: f=>by
  have:=Fr f
  simp only [nS,oB,kY,List.length_append,List.length_cons,List.length_nil]; omega
theorem OB {f:List aI} (hb:dE f=true):qD (nS f)=.ok f []:=by
 have:=Fr f
 exact CU f _ [] (by omega) hb
theorem L1 {f:List aI}{g:aI} (hb:dE (f ++ [g])=true):qD (nS f ++ kY g)=.er [] 3:=by
 have:=Fr f
 have h2:1≤(kY g).length:=by unfold kY; simp
 exact Cs f _ [] g (by rw [List.length_append]; omega) hb
theorem HX:∀ (l:List bI) (b:UInt8),(uD b l).length=4 * l.length
 | [],_=>rfl
 | m :: l,b=>by
  have:=HX l 44
  simp only [uD,vD,List.length_cons,List.length_append,List.length_nil] at this ⊢
  omega
theorem H3:∀ (l:List aQ) (b:List Kt),b.length≤2→(o5 b l).length≤5 * l.length
 | [],_,_=>by simp [o5]
 | p :: l,b,hb=>by
  have:=H3 l [(4,[44])] (by simp)
  simp only [o5,List.length_cons,List.length_append,List.length_nil] at this ⊢
  omega
theorem P8 {r:aR} (h:eI r=true):(sV r).length≤200:=by
 obtain ⟨_,h2,_,_,h5⟩:=tX h
 obtain ⟨k1,_,_⟩:=uC h2
 obtain ⟨_,s2,_⟩:=wY k1
 obtain ⟨l1,_⟩:=DX h5.1
 have e1:=HX r.E.S.M 123
 have e2:=H3 r.Labels [(1,kG),(4,[123])] (by simp)
 have e3:(zX r.Labels).length≤81:=by
  unfold zX; split
  ·simp
  ·rw [List.length_append]; simp only [List.length_cons,List.length_nil]; omega
 have e4:(CG r.E.S).length≤34:=by
  unfold CG; split
  ·simp
  ·simp only [List.length_cons,List.length_append,List.length_nil]; omega
 have e5:∀ (w:Str) (d:Int),(n9 w d).length≤2:=fun w d=>by unfold n9; split <;> simp
 have e6:=e5 kW r.For
 have e7:=e5 jE r.Keep
 simp only [sV,GJ,wU,List.length_append,List.length_cons,List.length_nil]
 omega
theorem M6:∀ {l:List aR},(∀ r ∈ l,eI r=true)→(rlK l).length≤200 * l.length
 | [],_=>by simp [rlK]
 | r :: l,h=>by
  have h1:=P8 (h r (by simp))
  have h2:=M6 (l:=l) fun x hx=>h x (by simp [hx])
  simp only [rlK,List.length_append,List.length_cons]; omega
theorem Ig {g:aI} (h:dN g=true):(kY g).length≤3300:=by
 obtain ⟨_,_,_,_,_,h6,_,h8⟩:=fR h
 have h1:=M6 h8
 have e5:(n9 nN g.Offset).length≤2:=by unfold n9; split <;> simp
 simp only [kY,List.length_append,List.length_cons]; omega
theorem CA:∀ {f:List aI},(∀ g ∈ f,dN g=true)→(nS f).length≤3301 * f.length
 | [],_=>by simp [nS]
 | g :: f,h=>by
  have h1:=Ig (h g (by simp))
  have h2:=CA (f:=f) fun x hx=>h x (by simp [hx])
  simp only [nS,oB,List.length_append,List.length_cons,List.length_nil]; omega
theorem K7 {s:Str}{ks:List Kt} (h:LX s ks) (hs:s.length≤100000000) (hk:ks.length≤60000):∃ l:List aL,l.length=ks.length∧dP s=some (Fu l s.length (qD ks)):=by
 obtain ⟨l,h1,h2⟩:=h hs 0
 obtain ⟨h3,h4⟩:=Rt h1
 have hl:l.length=ks.length:=by rw [← h2,List.length_map]
 refine ⟨l,hl,?_⟩
 rw [Cn s l _ _ (F8 s hs h1 (by omega)) ⟨by omega,fun x hx=>by have:=h4 x hx; omega⟩,if_pos rfl,h2]
theorem wZ {f:List aI} (hb:dE f=true):dP (fileS f)=some (f,((fileS f).length:Int),0):=by
 obtain ⟨b1,_,b3⟩:=cZ hb
 have hx:=LX.fileS f b3 LX.nil
 rw [List.append_nil,List.append_nil] at hx
 have e1:=oK b3
 have e2:=CA b3
 obtain ⟨l,_,h⟩:=K7 hx (by omega) (by omega)
 rw [h,OB hb]; rfl
theorem Mp {f:List aI}{g:aI} (hb:dE (f ++ [g])=true):dP (fileS f ++ headS g)=some ([],((fileS f ++ headS g).length:Int),3):=by
 obtain ⟨b1,_,b3⟩:=cZ hb
 have hg:=b3 g (by simp)
 have hf:∀ x ∈ f,dN x=true:=fun x hx=>b3 x (by simp [hx])
 have hx:=LX.fileS f hf (LX.headS hg LX.nil)
 rw [List.append_nil,List.append_nil] at hx
 have e1:=oK b3
 have e2:=CA hf
 have e3:=Ig hg
 rw [u0] at e1
 simp only [fileS,List.append_nil,Ad,List.length_append,List.length_cons,List.length_nil] at e1 b1
 obtain ⟨l,_,h⟩:=K7 hx (by rw [List.length_append]; omega) (by rw [List.length_append]; omega)
 rw [h,L1 hb]
 simp only [Fu,xD]
 rw [if_neg (by unfold iA; simp)]
end Go.Proofs.YthgenmkengbmmaaGreatDoor.AM
