/- P2 -/
import Derived.Test.YthgenmkengbmmaaGreatDoorCP1
set_option linter.all false
namespace Go.Proofs.YthgenmkengbmmaaGreatDoor.AM
open Go
theorem Q8 (x s:Str) (t:List Kt):isT 4 x ((1,s) :: t)=false:=pH t (.inr (by decide))
theorem QY (t:List Kt):isT 4 [125] ((4,[44]) :: t)=false:=pH t (.inl (by decide))
theorem Db {s:Str} (h:cJ s=true) (t:List Kt):pO ((1,s) :: t)=.ok s t:=by
 unfold pO; simp [h]
theorem FT {m:bS} (hm:mOk m=true) {n:Nat} (hn:n < 8) (t:List Kt):tL n (zQ m ++ t)=.ok m t:=by
 simp only [mOk,Bool.and_eq_true,decide_eq_true_eq] at hm
 unfold tL zQ
 simp only [List.cons_append,List.nil_append]
 rw [Db hm.1]
 simp only
 obtain ⟨a,b,c⟩:=m
 simp only at hm ⊢
 cases c
 ·simp only [Bool.false_eq_true,if_false]
  rw [pH _ (.inl (by decide)),iX]
  simp only [Bool.false_eq_true,if_false,if_true,List.tail_cons]
  unfold zI
  simp only
  rw [if_pos trivial,if_neg (by omega)]
 ·simp only [if_true]
  simp only [iX,if_true,List.tail_cons]
  unfold zI
  simp only
  rw [if_pos trivial,if_neg (by omega)]
theorem JP (nm:Str):∀ (ms:List bS) (m:bS) (f:Nat) (acc:List bS) (t:List Kt),acc.length + f=8→ms.length + 1≤f→mOk m=true→ms.all mOk=true →
  uB nm f acc (zQ m ++ (Az 44 ms ++ (4,[125]) :: t))=.ok ⟨nm,acc ++ m :: ms⟩ t
 | [],m,0,acc,t,_,h,_,_=>by simp at h
 | [],m,f + 1,acc,t,hl,h,hm,hms=>by
  unfold uB
  rw [FT hm (by omega)]
  simp only [Az,List.nil_append]
  simp only [iX,if_true,List.tail_cons]
 | m2 :: ms,m,0,acc,t,_,h,_,_=>by simp at h
 | m2 :: ms,m,f + 1,acc,t,hl,h,hm,hms=>by
  unfold uB
  rw [FT hm (by omega)]
  simp only [Az,List.cons_append]
  simp only [QY,iX,Bool.false_eq_true,if_false,if_true,List.tail_cons,List.append_assoc]
  rw [List.all_cons,Bool.and_eq_true] at hms
  simp only [List.length_cons] at h
  rw [JP nm ms m2 f (acc ++ [m]) t (by simp; omega) (by omega) hms.1 hms.2]
  simp
theorem FC (m:bS) (t:List Kt):zQ m ++ t=(1,m.Name) :: (4,if m.Not then [33,61] else [61]) :: (3,m.Value) :: t:=rfl
theorem Rl {s:cT} (hs:kD s=true) (t:List Kt) (ht:isT 4 [123] t=false):Eg (Jh s ++ t)=.ok s t:=by
 simp only [kD,Bool.and_eq_true,decide_eq_true_eq] at hs
 obtain ⟨⟨h1,h2⟩,h3⟩:=hs
 obtain ⟨nm,M⟩:=s
 simp only at h1 h2 h3
 unfold Eg Jh
 simp only [List.cons_append]
 rw [Db h1]
 rcases M with _ | ⟨m,ms⟩
 ·simp only [if_true,List.nil_append,ht]; try rfl
 ·rw [if_neg (by simp)]
  simp only [Az,List.cons_append,List.append_assoc,List.nil_append]
  simp only [iX,if_true,List.tail_cons]
  rw [List.all_cons,Bool.and_eq_true] at h3
  simp only [FC,Q8,Bool.false_eq_true,if_false]
  rw [← FC,JP nm ms m 8 [] t rfl (by simpa using h2) h3.1 h3.2]
  rfl
theorem SS {k:Int} (hk:1≤k∧k≤6):opB (signS k)=k:=by
 have:k=1 ∨ k=2 ∨ k=3 ∨ k=4 ∨ k=5 ∨ k=6:=by omega
 rcases this with rfl | rfl | rfl | rfl | rfl | rfl <;> decide
theorem SG {k:Int} (hk:1≤k∧k≤6) (s:UInt8) (h:s=123 ∨ s=40 ∨ s=41:=by simp):signS k ≠ [s]:=by
 have:k=1 ∨ k=2 ∨ k=3 ∨ k=4 ∨ k=5 ∨ k=6:=by omega
 rcases h with rfl | rfl | rfl <;> rcases this with rfl | rfl | rfl | rfl | rfl | rfl <;> decide
theorem N9 {x:cG} (hx:iJ x=true) (t:List Kt):wY (AD x ++ t)=.ok x t:=by
 simp only [iJ,Bool.and_eq_true,decide_eq_true_eq] at hx
 obtain ⟨⟨h1,h2⟩,h3⟩:=hx
 unfold wY AD
 simp only [List.cons_append,List.append_assoc,List.nil_append]
 rw [Rl h1 _ (pH _ (.inl (SG h2 123)))]
 simp only [opP,if_true,SS h2]
 rw [if_neg (by omega)]
 simp only [List.tail_cons,yN,Sm h3,if_true]
theorem RM (s:cT):∃ t,Jh s=(1,s.Name) :: t:=⟨_,rfl⟩
theorem Ql {x:cG} (hx:iJ x=true) (t:List Kt):Ce (AD x ++ t)=.ok x t:=by
 have hp:=N9 hx t
 unfold Ce jL
 have:isT 4 [40] (AD x ++ t)=false:=by
  obtain ⟨u,e⟩:=RM x.S
  unfold AD
  rw [e]
  exact pH _ (.inr (by decide))
 rw [this]
 simpa using hp
theorem JE (w:Str) {d:Int} (hd:tmB d=true) (t:List Kt) (ht:isT 1 w t=false):CU w (Bh w d ++ t)=.ok d t:=by
 have h0:=m7.1 hd
 unfold CU Bh
 by_cases hp:0 < d
 ·rw [if_pos hp]
  simp only [List.cons_append,List.nil_append]
  simp only [iX,if_true,List.tail_cons,g9,R9 hd]
 ·rw [if_neg hp,List.nil_append,ht]
  simp only [Bool.false_eq_true,if_false]
  rw [show d=0 by omega]
theorem Ij (p:aY) (t:List Kt):oO ((1,p.1) :: (4,[61]) :: (3,p.2) :: t)=.ok p t:=by
 unfold oO
 simp only [if_true,iX,List.tail_cons]
theorem Fx:∀ (ps:List aY) (p:aY) (acc:List aY) (t:List Kt),wQ acc ((1,p.1) :: (4,[61]) :: (3,p.2) :: (vH [(4,[44])] ps ++ (4,[125]) :: t))=.ok (acc ++ p :: ps) ((4,[125]) :: t)
 | [],p,acc,t=>by
  rw [EC,Ij]
  simp only [vH,List.nil_append,iX,if_true]
 | q :: ps,p,acc,t=>by
  rw [EC,Ij]
  simp only [vH,List.cons_append,List.nil_append]
  simp only [QY,iX,Bool.false_eq_true,if_false,if_true,List.tail_cons]
  rw [Fx ps q (acc ++ [p]) t]
  simp
theorem O9 {l:List aY} (h:gZ l=true):g7 l=(l,0):=by
 obtain ⟨hg,ha⟩:=Fv h
 rw [HT hg,Mq hg ha]
theorem LI {l:List aY} (hl:H0 l) (t:List Kt) (ht:isT 1 lR t=false):pR (DP l ++ t)=.ok l t:=by
 obtain ⟨h1,h2⟩:=hl
 rcases l with _ | ⟨p,ps⟩
 ·unfold pR DP
  rw [if_pos rfl,List.nil_append,ht]; rfl
 ·have e:DP (p :: ps)=vH [(1,lR),(4,[123])] (p :: ps) ++ [(4,[125])]:=if_neg (by simp)
  rw [e]
  unfold pR
  simp only [vH,List.cons_append,List.nil_append,List.append_assoc]
  simp only [iX,if_true,List.tail_cons]
  unfold mU
  simp only [iX,if_true,List.tail_cons]
  simp only [Q8,Bool.false_eq_true,if_false]
  rw [Fx ps p [] t]
  simp only [List.nil_append]
  unfold CM
  rw [O9 h1]
  simp only [if_true,h2,Bool.false_eq_true,if_false,List.tail_cons]
theorem SU {w w2:Str} (hw:w2 ≠ w) (d:Int) {t:List Kt} (ht:isT 1 w t=false):isT 1 w (Bh w2 d ++ t)=false:=by
 unfold Bh; split
 ·exact pH _ (.inl hw)
 ·exact ht
theorem Nf {w:Str} (hw:lR ≠ w) (l:List aY) {t:List Kt} (ht:isT 1 w t=false):isT 1 w (DP l ++ t)=false:=by
 rcases l with _ | ⟨p,ps⟩
 ·exact ht
 ·exact pH _ (.inl hw)
theorem PW {r:a6} (hr:eB r=true) (t:List Kt) (h1:isT 1 kG t=false) (h2:isT 1 jE t=false) (h3:isT 1 lR t=false) :
  Au r.Name r.E (Bh kG r.For ++ (Bh jE r.Keep ++ (DP r.Labels ++ t)))=if isT 4 [59] t then .ok r t.tail else wr t:=by
 simp only [eB,Bool.and_eq_true,Bool.not_eq_true'] at hr
 obtain ⟨⟨⟨⟨⟨_,_⟩,k3⟩,k4⟩,k5⟩,k6⟩:=hr
 unfold Au
 rw [JE kG k3 _ (SU (by decide) _ (Nf (by decide) _ h1))]
 simp only
 rw [JE jE k4 _ (Nf (by decide) _ h2)]
 simp only
 rw [LI ⟨k5,k6⟩ _ h3]
theorem PJ {r:a6} (hr:eB r=true) (t:List Kt) (h1:isT 1 kG t=false) (h2:isT 1 jE t=false) (h3:isT 1 lR t=false) :
  lY (KW r ++ t)=if isT 4 [59] t then .ok r t.tail else wr t:=by
 have h:=hr
 simp only [eB,Bool.and_eq_true] at h
 obtain ⟨⟨⟨⟨⟨k1,k2⟩,_⟩,_⟩,_⟩,_⟩:=h
 unfold lY KW
 simp only [List.cons_append,List.append_assoc]
 simp only [iX,if_true,List.tail_cons]
 rw [Db k1]
 simp only
 simp only [iX,if_true,List.tail_cons]
 rw [Ql k2]
 exact PW hr t h1 h2 h3
theorem GK {r:a6} (hr:eB r=true) (t:List Kt):lY (H1 r ++ t)=.ok r t:=by
 unfold H1
 rw [List.append_assoc,List.cons_append,List.nil_append,PJ hr _ (pH _ (.inr (by decide))) (pH _ (.inr (by decide))) (pH _ (.inr (by decide))),iX]
 rfl
theorem bG {α β:Type} (ks:List Nat) (w:List Obj) (enc:α→AV) (ob:α→List Obj) (a:α) (m:α→Option β):bV ks w enc ob (some a) m=m a:=rfl
theorem rX {β:Type} (h e:List Nat) (r:List (Bool × Nat)) (m:Option β):sN h e r m=m:=rfl
theorem I1 {β:Type} (a b c d:Nat) (m:Option β):tokB a b c d m=m:=rfl
theorem Gf {β:Type} (a:Nat) (m:Option β):H8 a m=m:=rfl
def tks (l:List aN) (i:Nat):List Kt:=(l.drop i).map kv
def mI (l:List aN) (t:List Kt):Int:=(l.length:Int) - t.length
theorem l6 {l:List aN}{i:Nat} (h:i < l.length):tks l i=kv (nth l i) :: tks l (i + 1):=by
 unfold tks; rw [dI h]; rfl
theorem gQ {l:List aN}{i:Nat} (h:l.length≤i):tks l i=[]:=by
 unfold tks; rw [List.drop_eq_nil_of_le h]; rfl
theorem EO (l:List aN) (i:Nat):(tks l i).length=l.length - i:=by simp [tks]
theorem dN (l:List aN) (i:Nat):(tks l i).tail=tks l (i + 1):=by
 rcases Nat.lt_or_ge i l.length with h | h
 ·rw [l6 h]; rfl
 ·rw [gQ h,gQ (by omega)]; rfl
theorem bU {l:List aN}{i:Nat} (h:i≤l.length):mI l (tks l i)=i:=by
 unfold mI; rw [EO]; omega
theorem OU {l:List aN}{i:Nat} (hi:i≤l.length) {p u:List Kt} (h:tks l i=p ++ u):∃ j,i + p.length=j∧j≤l.length∧u=tks l j:=by
 have h1:=congrArg List.length h
 rw [EO,List.length_append] at h1
 refine ⟨_,rfl,by omega,?_⟩
 have h2:=congrArg (List.drop p.length) h
 rw [List.drop_left] at h2
 rw [← h2]
 unfold tks
 rw [List.map_drop,List.map_drop,List.drop_drop]
theorem bH.toks {α:Type}{l:List aN}{i m:Nat}{r:Pr α}{Q:α→Prop} (h:bH (tks l i) r Q m) (hi:i≤l.length) :
  (∃ e j,r=.er (tks l j) e∧i≤j∧j≤l.length∧e ≠ 0∧(e=3 ↔ j=l.length)) ∨ (∃ a j,r=.ok a (tks l j)∧i + m≤j∧j≤l.length∧Q a):=by
 rcases h.split with ⟨u,e,p,hr,hp,h3,h0⟩ | ⟨a,u,p,hr,hp,hm,hq⟩
 ·obtain ⟨j,h1,h2,rfl⟩:=OU hi hp
  refine .inl ⟨e,j,hr,by omega,h2,h0,?_⟩
  rw [h3,← List.length_eq_zero_iff,EO]; omega
 ·obtain ⟨j,h1,h2,rfl⟩:=OU hi hp
  exact .inr ⟨a,j,hr,by omega,h2,hq⟩
def Pr.val {α:Type} (z:α):Pr α→α
 | .er _ _=>z
 | .ok a _=>a
def Pr.err {α:Type}:Pr α→Int
 | .er _ e=>e
 | .ok _ _=>0
def Pr.rem {α:Type}:Pr α→List Kt
 | .er u _=>u
 | .ok _ u=>u
def vT {α:Type} (l:List aN) (z:α) (r:Pr α):α × Int × Int:=(r.val z,mI l r.rem,r.err)
def vSr {α:Type} (l:List aN) (z:α) (r:Pr α):α × Int × cF:=(r.val z,r.err,⟨l,mI l r.rem⟩)
theorem tQ {α:Type}{l:List aN}{z:α}{j:Nat}{e:Int} (h:j≤l.length):vT l z (.er (tks l j) e)=(z,(j:Int),e):=by
 simp only [vT,Pr.val,Pr.rem,Pr.err,bU h]
theorem Hz {α:Type}{l:List aN}{z a:α}{j:Nat} (h:j≤l.length):vT l z (.ok a (tks l j))=(a,(j:Int),0):=by
 simp only [vT,Pr.val,Pr.rem,Pr.err,bU h]
theorem s5 {α:Type}{l:List aN}{z:α}{j:Nat}{e:Int} (h:j≤l.length):vSr l z (.er (tks l j) e)=(z,e,⟨l,(j:Int)⟩):=by
 simp only [vSr,Pr.val,Pr.rem,Pr.err,bU h]
theorem wR {α:Type}{l:List aN}{z a:α}{j:Nat} (h:j≤l.length):vSr l z (.ok a (tks l j))=(a,0,⟨l,(j:Int)⟩):=by
 simp only [vSr,Pr.val,Pr.rem,Pr.err,bU h]
theorem X5 {α:Type}{l:List aN}{z:α}{j:Nat} (h:j≤l.length):vT l z (wr (tks l j))=(z,(j:Int),wrE (tks l j)):=tQ h
theorem HX {α:Type}{l:List aN}{z:α}{j:Nat} (h:j≤l.length):vSr l z (wr (tks l j))=(z,wrE (tks l j),⟨l,(j:Int)⟩):=s5 h
def isK (k:Int):List Kt→Bool
 | []=>false
 | x :: _=>decide (x.1=k)
def SmT (l:List aN):Prop:=l.length≤100000000∧∀ x ∈ l,x.S.length≤100000000
theorem EL {l:List aN}{i:Nat} (h:i < l.length) (k:Int) (s:Str):isT k s (tks l i)=(decide ((nth l i).K=k) && decide ((nth l i).S=s)):=by
 rw [l6 h]; rfl
theorem sE {l:List aN}{i:Nat} (h:i < l.length) (k:Int):isK k (tks l i)=decide ((nth l i).K=k):=by
 rw [l6 h]; rfl
theorem eS {l:List aN}{i:Nat}{k:Int}{s:Str} (h:isT k s (tks l i)=true):i < l.length:=by
 rcases Nat.lt_or_ge i l.length with h1 | h1
 ·exact h1
 ·rw [gQ h1] at h; cases h
theorem kL {l:List aN}{i:Nat}{k:Int} (h:isK k (tks l i)=true):i < l.length:=by
 rcases Nat.lt_or_ge i l.length with h1 | h1
 ·exact h1
 ·rw [gQ h1] at h; cases h
theorem IV {t:List Kt} (h:isK 1 t=false):pO t=wr t:=by
 rcases t with _ | ⟨x,r⟩
 ·rfl
 ·simp only [isK,decide_eq_false_iff_not] at h
  simp only [pO,if_neg h]; try rfl
theorem GF {l:List aN}{i:Nat} (h:isK 1 (tks l i)=true):pO (tks l i)=if cJ (nth l i).S then .ok (nth l i).S (tks l (i + 1)) else .er (tks l i) 7:=by
 have hl:=kL h
 rw [l6 hl] at h ⊢
 simp only [isK,decide_eq_true_eq] at h
 simp only [pO,if_pos h]; try rfl
theorem U7 {n:Nat}{nm:Str}{nt:Bool}{t:List Kt} (h:isK 3 t=false):zI n nm nt t=wr t:=by
 rcases t with _ | ⟨x,r⟩
 ·rfl
 ·simp only [isK,decide_eq_false_iff_not] at h
  simp only [zI,if_neg h]; try rfl
theorem TQ {n:Nat}{nm:Str}{nt:Bool}{l:List aN}{i:Nat} (h:isK 3 (tks l i)=true):zI n nm nt (tks l i)=if 64 < (nth l i).S.length ∨ 8≤n then .er (tks l i) 4 else .ok ⟨nm,(nth l i).S,nt⟩ (tks l (i + 1)):=by
 have hl:=kL h
 rw [l6 hl] at h ⊢
 simp only [isK,decide_eq_true_eq] at h
 simp only [zI,if_pos h]; try rfl
theorem DK (l:List aN) (i:Nat) (k:Int):fQ k ⟨l,(i:Int)⟩=some (isK k (tks l i)):=by
 unfold fQ
 simp only [aV,aO,bI]
 by_cases h:i < l.length
 ·rw [if_pos (by omega),a8 (bJ h),sE h]
 ·rw [if_neg (by omega),gQ (by omega)]; rfl
theorem tE (l:List aN) (i:Nat):dS ⟨l,(i:Int)⟩=some (wrE (tks l i)):=by
 unfold dS
 simp only [aV,aO,bI]
 by_cases h:i < l.length
 ·rw [if_neg (by omega),l6 h]; rfl
 ·rw [if_pos (by omega),gQ (by omega)]; rfl
theorem oC (l:List aN) (i:Nat) (s:Str) (hl:l.length≤100000000):d8 s ⟨l,(i:Int)⟩=some (isT 4 s (tks l i),⟨l,if isT 4 s (tks l i) then ((i + 1:Nat):Int) else (i:Int)⟩):=by
 unfold d8
 rw [eC,DK,bG]
 simp only [aV,bP,aO,bI]
 cases h:isK 4 (tks l i)
 ·have:isT 4 s (tks l i)=false:=by
   rcases hl:tks l i with _ | ⟨x,r⟩
   ·rfl
   ·rw [hl] at h
    simp only [isK] at h
    simp only [isT,h,Bool.false_and]
  rw [this]; rfl
 ·have hlt:=kL h
  rw [sE hlt] at h
  rw [aZ,a8 (bJ hlt),EL hlt,h,Bool.true_and,bC (by omega)]
  by_cases h2:(nth l i).S=s
  ·simp [h2]
  ·simp [h2]
theorem FK (l:List aN) (i:Nat) (hi:i≤l.length) (hl:l.length≤100000000):i7 ⟨l,(i:Int)⟩=some (vSr l [] (pO (tks l i))):=by
 unfold i7
 rw [DK,bG]
 simp only [aV,bP,bI]
 cases h:isK 1 (tks l i)
 ·rw [bA,tE,bG,IV h,HX hi]
 ·have hlt:=kL h
  rw [aZ,a8 (bJ hlt),jA,aC,GF h]
  cases cJ (nth l i).S
  ·simp only [bA,Bool.false_eq_true,if_false,s5 hi]
  ·simp only [aZ,if_true]
   rw [wR (by omega),bC (by omega)]; rfl
theorem MH (l:List aN) (i n:Nat) (hi:i≤l.length) (hl:l.length≤100000000) (hn:n≤100000000):jU (n:Int) ⟨l,(i:Int)⟩=some (vSr l ⟨[],[],false⟩ (tL n (tks l i))):=by
  unfold jU
  rw [FK l i hi hl,bG]
  unfold tL
  have tail:∀ (j:Nat) (nm:Str) (nt:Bool),j≤l.length→(bV [0] [.box [sl aB l,vI (j:Int)],.box [vS ([]:Str),vS ([]:Str),vB false]] (fun x8=>vB x8) (fun x8=>[.box [sl aB l,vI (j:Int)],.box [vS ([]:Str),vS ([]:Str),vB false]]) (fQ (3:Int) ⟨l,(j:Int)⟩) fun x8=>
      aF x8 (bM l (j:Int) fun x11=>aF (bif decide ((64:Int) < (x11.S.length:Int)) then true else decide ((8:Int)≤(n:Int))) (some ((⟨([]:Str),([]:Str),false⟩:bS),(4:Int),(⟨l,(j:Int)⟩:cF))) (some ((⟨nm,x11.S,nt⟩:bS),(0:Int),(⟨l,wI ((j:Int) + 1)⟩:cF))))
       (bV [0] [.box [sl aB l,vI (j:Int)],.box [vS ([]:Str),vS ([]:Str),vB false]] (fun x10=>vI x10) (fun x10=>[.box [sl aB l,vI (j:Int)],.box [vS ([]:Str),vS ([]:Str),vB false]]) (dS ⟨l,(j:Int)⟩) fun x10=>some ((⟨([]:Str),([]:Str),false⟩:bS),x10,(⟨l,(j:Int)⟩:cF)))) =
      some (vSr l ⟨[],[],false⟩ (zI n nm nt (tks l j))):=by
    intro j nm nt hj
    rw [DK,bG]
    cases h:isK 3 (tks l j)
    · rw [bA,tE,bG,U7 h,HX hj]
    · have hlt:=kL h
      rw [aZ,a8 (bJ hlt),TQ h]
      rw [n5,← Bool.decide_or,aO]
      by_cases h2:64 < (nth l j).S.length ∨ 8≤n
      · rw [if_pos (by omega),if_pos h2,s5 hj]
      · rw [if_neg (by omega),if_neg h2,wR (by omega),bC (by omega)]; rfl
  rcases (p3 (tks l i)).toks hi with ⟨e,j,hr,h1,h2,h0,_⟩ | ⟨nm,j,hr,h1,h2,hq⟩ <;> rw [hr]
  · rw [s5 h2]
    simp only [aV,bP,aO,if_neg h0,bI]
    rw [s5 h2]
  · rw [wR h2]
    simp only [aV,bP,aO,if_true,bI]
    rw [oC l j _ hl,bG]
    cases hs:isT 4 [33,61] (tks l j)
    · simp only [bA,Bool.false_eq_true,if_false]
      rw [oC l j _ hl,bG]
      cases hs2:isT 4 [61] (tks l j)
      · simp only [bA,Bool.false_eq_true,if_false]
        rw [tE,bG,HX h2]
      · have:=eS hs2
        simp only [aZ,if_true,dN]
        exact tail (j + 1) nm false (by omega)
    · have:=eS hs
      simp only [aZ,if_true,dN]
      exact tail (j + 1) nm true (by omega)
theorem Ph (l:List aN) (i:Nat) (hi:i≤l.length) (hl:l.length≤100000000):kX ⟨l,(i:Int)⟩=some (vSr l ⟨[],[]⟩ (Eg (tks l i))):=by
 unfold kX
 rw [FK l i hi hl,bG]
 unfold Eg
 rcases (p3 (tks l i)).toks hi with ⟨e,j,hr,h1,h2,h0,_⟩ | ⟨nm,j,hr,h1,h2,hq⟩ <;> rw [hr]
 ·rw [s5 h2]
  simp only [aV,bP,aO,if_neg h0,bI]
  rw [s5 h2]
 ·rw [wR h2]
  simp only [aV,eU,bP,aO,if_true,bI,I1]
  rw [oC l j _ hl,bG]
  cases hs:isT 4 [123] (tks l j)
  ·simp only [bA,Bool.false_eq_true,if_false]
   rw [wR h2]
  ·have hj:=eS hs
   simp only [aZ,if_true,dN]
   rw [oC l (j + 1) _ hl,bG]
   cases hs2:isT 4 [125] (tks l (j + 1))
   ·simp only [bA,Bool.false_eq_true,if_false]
    refine (dZ (fun x:List aN × Int × List bS=>x.1=l∧(0≤x.2.1∧x.2.1≤l.length)∧x.2.2.length≤8) (fun x=>9 - x.2.2.length) (fun x=>vSr l ⟨[],[]⟩ (uB nm (8 - x.2.2.length) x.2.2 (tks l x.2.1.toNat))) ?_ (by refine ⟨rfl,?_,?_⟩ <;> simp only [List.length_nil] <;> omega)).trans (by simp)
    rintro ⟨l',k,acc⟩ ⟨rfl,hk,ha⟩
    simp only at hk ha ⊢
    obtain ⟨k,rfl⟩:=Int.eq_ofNat_of_zero_le hk.1
    simp only [Int.toNat_natCast]
    rw [MH l' k acc.length (by omega) hl (by omega),bG]
    rcases (AQ acc.length (tks l' k)).toks (by omega) with ⟨e,m,hr,h1,h2,h0,_⟩ | ⟨x,m,hr,h1,h2,hq⟩
    ·left
     have hL:uB nm (8 - acc.length) acc (tks l' k)=.er (tks l' m) e:=by
      rcases h8:8 - acc.length with _ | f <;> (unfold uB; rw [hr])
     rw [hr,hL,s5 h2,s5 h2,if_neg h0]
     rfl
    ·rw [hr,wR h2]
     have h8:8 - acc.length=(7 - acc.length) + 1:=by have:=hq.2; omega
     have hL:uB nm (8 - acc.length) acc (tks l' k)=if isT 4 [125] (tks l' m) then .ok ⟨nm,acc ++ [x]⟩ (tks l' m).tail else if isT 4 [44] (tks l' m) then uB nm (7 - acc.length) (acc ++ [x]) (tks l' m).tail else wr (tks l' m):=by
      rw [h8]
      conv=>lhs; unfold uB
      rw [hr]
     rw [hL]
     simp only [if_true]
     rw [aM (by simp only [List.length_cons,List.length_nil]; omega),oC l' m _ hl,bG]
     cases hs3:isT 4 [125] (tks l' m)
     ·simp only [bA,Bool.false_eq_true,if_false]
      rw [oC l' m _ hl,bG]
      cases hs4:isT 4 [44] (tks l' m)
      ·left
       simp only [bA,Bool.false_eq_true,if_false]
       rw [tE,bG,HX h2]; rfl
      ·right
       have:=eS hs4
       simp only [aZ,if_true,dN]
       refine ⟨_,rfl,⟨rfl,⟨?_,?_⟩,?_⟩,?_,?_⟩
       ·simp only; omega
       ·simp only; omega
       ·simp only [List.length_append,List.length_singleton]; omega
       ·simp only [List.length_append,List.length_singleton]; omega
       ·simp only [List.length_append,List.length_singleton,Int.toNat_natCast]
        rw [show 8 - (acc.length + 1)=7 - acc.length by omega]
     ·left
      have:=eS hs3
      simp only [aZ,if_true,dN]
      rw [wR (by omega)]; rfl
   ·have:=eS hs2
    simp only [aZ,if_true]
    rw [wR (by omega)]
theorem MA (l:List aN) (i:Nat) (hi:i≤l.length) (hl:l.length≤100000000):wP l (i:Int)=some (vT l ⟨[],[]⟩ (Eg (tks l i))):=by
 unfold wP
 simp only [aV,aO]
 rw [if_neg (by omega),show min (i:Int) (l.length:Int)=(i:Int) by omega,Ph l i hi hl,bG]
 rfl
end Go.Proofs.YthgenmkengbmmaaGreatDoor.AM
namespace Go.Proofs.YthgenmkengbmmaaGreatDoor.AM

open Go
end Go.Proofs.YthgenmkengbmmaaGreatDoor.AM
namespace Go.Proofs.YthgenmkengbmmaaGreatDoor.AM
open Go
abbrev zE:cG:=⟨⟨[],[]⟩,0,0⟩
theorem Cj (l:List aN) (i:Nat) (s:Str):sM l (i:Int) s=some (isT 4 s (tks l i)):=by
 unfold sM
 simp only [aV,aO,bI]
 by_cases h:i < l.length
 ·rw [if_pos (by omega),a8 (bJ h),EL h]
  by_cases h1:(nth l i).K=4
  ·simp [h1]
  ·simp [h1]
 ·rw [if_neg (by omega),gQ (by omega)]; rfl
theorem rC (l:List aN) (i:Nat):kM l (i:Int)=some (wrE (tks l i)):=by
 unfold kM
 simp only [aV,aO,bI]
 by_cases h:i < l.length
 ·rw [if_neg (by omega),l6 h]; rfl
 ·rw [if_pos (by omega),gQ (by omega)]; rfl
theorem Ug (s:Str) (i:Nat) (g:Str) (hi:1≤i∧i≤6) (h:gl1[i]?=some g):opB s=i ↔ s=g:=by
  have:i=1 ∨ i=2 ∨ i=3 ∨ i=4 ∨ i=5 ∨ i=6:=by omega
  unfold opB
  rcases this with rfl | rfl | rfl | rfl | rfl | rfl <;> cases h <;>
    (by_cases h1:s=[62]
     · subst h1; decide
     by_cases h2:s=[62,61]
     · subst h2; decide
     by_cases h3:s=[60]
     · subst h3; decide
     by_cases h4:s=[60,61]
     · subst h4; decide
     by_cases h5:s=[61,61]
     · subst h5; decide
     by_cases h6:s=[33,61]
     · subst h6; decide
     simp [h1,h2,h3,h4,h5,h6])
theorem TT (t:List Kt) (i:Nat) (g:Str) (hi:1≤i∧i≤6) (h:gl1[i]?=some g):isT 4 g t=true ↔ opP t=i:=by
 rcases t with _ | ⟨x,r⟩
 ·simp only [isT,opP]; constructor
  ·intro h; cases h
  ·intro h; omega
 ·simp only [isT,opP,Bool.and_eq_true,decide_eq_true_eq]
  by_cases h1:x.1=4
  ·rw [if_pos h1,Ug _ i g hi h]; simp [h1]
  ·rw [if_neg h1]; constructor
   ·intro h2; exact absurd h2.1 h1
   ·intro h2; omega
theorem Vg (i:Nat) (h:i < 7):∃ g,gl1[i]?=some g∧(1≤i→g ≠ []):=by
 have:i=0 ∨ i=1 ∨ i=2 ∨ i=3 ∨ i=4 ∨ i=5 ∨ i=6:=by omega
 rcases this with rfl | rfl | rfl | rfl | rfl | rfl | rfl
 ·exact ⟨_,rfl,fun h=>absurd h (by decide)⟩
 all_goals exact ⟨_,rfl,fun _=>by decide⟩
theorem Ty (i:Int):pA i=some (decide (1≤i∧i≤6)):=by
 unfold pA
 simp only [aV,bI,iA,← Bool.decide_and]
def rT (n:Nat):Pr cG→Pr cG
 | .er u e=>.er u e
 | .ok x u=>y9 n x u
theorem Qn {f:Nat}{t:List Kt} (h:isT 4 [40] t=false):jL f t=wY t:=by
 cases f <;> (unfold jL; rw [h]; rfl)
theorem RK (k:Nat) (r:Pr cG):rT (k + 1) r=rT k (match r with
   | .er u e=>.er u e
   | .ok x u=>if isT 4 [41] u then .ok x u.tail else wr u):=by
 cases r with
 | er u e=>rfl
 | ok x u=>
  simp only [rT,y9]
  cases isT 4 [41] u <;> rfl
theorem Wi {s:cT}{k:Int}{t:List Kt} (h:isK 2 t=false):yN s k t=wr t:=by
 rcases t with _ | ⟨x,r⟩
 ·rfl
 ·simp only [isK,decide_eq_false_iff_not] at h
  simp only [yN,if_neg h]; try rfl
theorem T1 {s:cT}{k:Int}{l:List aN}{i:Nat} (h:isK 2 (tks l i)=true):yN s k (tks l i)=if (qK (nth l i).S).2=0 then .ok ⟨s,k,(qK (nth l i).S).1⟩ (tks l (i + 1)) else .er (tks l i) (qK (nth l i).S).2:=by
 have hl:=kL h
 rw [l6 hl] at h ⊢
 simp only [isK,decide_eq_true_eq] at h
 simp only [yN,if_pos h]; try rfl
theorem Rb {l:List aN}{i:Nat}{k:Int} (h:i < l.length):(nth l i).K=k ↔ isK k (tks l i)=true:=by
 rw [sE h,decide_eq_true_eq]
theorem P9 {ph:Int × Int→List (Nat × AV)}{ob:Int × Int→List Obj}{o1:Bool→List Obj}{o2:Int→List Obj} (l:List aN) (hl:l.length≤100000000) (x:cG) (k:Nat) (hk:k≤32) (j:Nat) (hj:j≤l.length) :
  bQ ph ob (fun (x29:Int × Int)=>if x29.2 < (k:Int) then aJ vB o1 (sM l x29.1 ([41]:Str)) fun x31=>aF x31 (aW (wI (x29.1 + 1),wI (x29.2 + 1))) (aJ vI o2 (kM l x29.1) fun x33=>aQ (some (zE,x29.1,x33)))
   else aQ (some (x,x29.1,(0:Int)))) ((j:Int),(0:Int))=some (vT l zE (y9 k x (tks l j))):=by
 refine (dZ (fun s:Int × Int=>(0≤s.1∧s.1≤l.length)∧(0≤s.2∧s.2≤k)) (fun s=>k + 1 - s.2.toNat) (fun s=>vT l zE (y9 (k - s.2.toNat) x (tks l s.1.toNat))) ?_ (by refine ⟨⟨?_,?_⟩,?_,?_⟩ <;> simp only <;> omega)).trans (by simp)
 rintro ⟨i,c⟩ ⟨hi,hc⟩
 simp only at hi hc ⊢
 obtain ⟨i,rfl⟩:=Int.eq_ofNat_of_zero_le hi.1
 obtain ⟨c,rfl⟩:=Int.eq_ofNat_of_zero_le hc.1
 simp only [Int.toNat_natCast]
 by_cases h:c < k
 ·rw [if_pos (by omega),Cj,aC,show k - c=(k - (c + 1)) + 1 by omega]
  simp only [y9]
  cases hs:isT 4 [41] (tks l i)
  ·left
   simp only [bA,Bool.false_eq_true,if_false]
   rw [rC,aC,X5 (by omega)]; rfl
  ·right
   have:=eS hs
   simp only [aZ,if_true,dN]
   rw [bC (by omega),bC (by omega)]
   refine ⟨_,rfl,⟨⟨?_,?_⟩,?_,?_⟩,?_,?_⟩
   ·simp only; omega
   ·simp only; omega
   ·simp only; omega
   ·simp only; omega
   ·simp only; omega
   ·simp only
    rw [show ((c:Int) + 1).toNat=c + 1 by omega,show ((i:Int) + 1).toNat=i + 1 by omega]
 ·left
  rw [if_neg (by omega),show k - c=0 by omega]
  simp only [y9]
  rw [Hz (by omega)]; rfl
theorem Kg (l:List aN) (i:Nat) (hs:SmT l) (hi:i≤l.length):sX l (i:Int)=some (vT l zE (Ce (tks l i))):=by
 have hl:=hs.1
 unfold sX
 simp only [aV,aO,bP,bI]
 rw [if_neg (by omega)]
 refine (dZ (fun s:Int × Int=>(0≤s.1∧s.1≤l.length)∧(0≤s.2∧s.2≤32)) (fun s=>33 - s.2.toNat) (fun s=>vT l zE (rT s.2.toNat (jL (32 - s.2.toNat) (tks l s.1.toNat)))) ?_ (by refine ⟨⟨?_,?_⟩,?_,?_⟩ <;> simp only <;> omega)).trans ?_
 ·rintro ⟨j,k⟩ ⟨hj,hk⟩
  simp only at hj hk ⊢
  obtain ⟨j,rfl⟩:=Int.eq_ofNat_of_zero_le hj.1
  obtain ⟨k,rfl⟩:=Int.eq_ofNat_of_zero_le hk.1
  simp only [Int.toNat_natCast]
  rw [Cj,aC]
  cases ho:isT 4 [40] (tks l j)
  ·left
   rw [bA,Qn ho,MA l j (by omega) hl,aC]
   unfold wY
   rcases (JI (tks l j)).toks (by omega) with ⟨e,m,hr,h1,h2,h0,_⟩ | ⟨s,m,hr,h1,h2,hq⟩ <;> rw [hr]
   ·rw [tQ h2]
    simp only [if_neg h0,rT]
    rw [tQ h2]; rfl
   ·rw [Hz h2]
    simp only [if_true]
    refine congrArg aQ (?_:_=some (vT l zE (rT k (if opP (tks l m)=0 then wr (tks l m) else yN s (opP (tks l m)) (tks l m).tail))))
    have hop:=RV (tks l m)
    refine (fC 7 (fun i a=>a=if opP (tks l m) < i then opP (tks l m) else 0) (fun _ _=>vT l zE (rT k (if opP (tks l m)=0 then wr (tks l m) else yN s (opP (tks l m)) (tks l m).tail))) ?_ ?_ ?_)
    ·intro i a hi ha
     right
     obtain ⟨g,hg,hg2⟩:=Vg i hi
     rw [if_pos (by simp only; omega),a8 hg,Ty,aC,aO]
     simp only [Cj,aC]
     rw [bC (show -9223372036854775808≤(i:Int) + 1∧_ by omega),show (i:Int) + 1=((i + 1:Nat):Int) by omega]
     by_cases h1:1≤i
     ·have hiff:=TT (tks l m) i g ⟨h1,by omega⟩ hg
      rw [if_pos (by omega)]
      cases hx:isT 4 g (tks l m)
      ·have hne:opP (tks l m) ≠ i:=fun h=>by have:=hiff.2 h; rw [hx] at this; cases this
       refine ⟨a,rfl,?_,trivial⟩
       rw [ha]
       by_cases h2:opP (tks l m) < i
       ·rw [if_pos h2,if_pos (by omega)]
       ·rw [if_neg h2,if_neg (by omega)]
      ·have he:=hiff.1 hx
       refine ⟨(i:Int),rfl,?_,trivial⟩
       rw [if_pos (by omega),he]
     ·rw [if_neg (by omega)]
      refine ⟨a,rfl,?_,trivial⟩
      rw [ha,if_neg (by omega)]
      by_cases h2:opP (tks l m) < ((i + 1:Nat):Int)
      ·rw [if_pos h2]; omega
      ·rw [if_neg h2]
    ·intro a ha
     rw [if_pos (by omega)] at ha
     subst ha
     rw [if_neg (by simp only; omega)]
     simp only
     by_cases h0:opP (tks l m)=0
     ·rw [if_pos h0,if_pos h0,rC,aC]
      simp only [rT,wr]
      rw [tQ h2]; rfl
     ·rw [if_neg h0,if_neg h0]
      obtain ⟨x,hx⟩:=Mu h0
      have hm:m < l.length:=by
       rcases Nat.lt_or_ge m l.length with h | h
       ·exact h
       ·rw [gQ h] at h0; exact absurd rfl h0
      rw [bC (show -9223372036854775808≤(m:Int) + 1∧_ by omega),show (m:Int) + 1=((m + 1:Nat):Int) by omega,dN]
      by_cases hm1:m + 1 < l.length
      ·rw [if_neg (by omega),a8 (bJ hm1)]
       cases hk2:isK 2 (tks l (m + 1))
       ·rw [if_neg (fun h=>by rw [Rb hm1,hk2] at h; cases h),rC,aC,Wi hk2]
        simp only [rT,wr]
        rw [tQ (by omega)]; rfl
       ·rw [if_pos ((Rb hm1).2 hk2),M5 _ (hs.2 _ (dV hm1)),aC,UA,T1 hk2]
        by_cases h3:(qK (nth l (m + 1)).S).2=0
        ·rw [if_pos h3,if_pos h3]
         simp only [rT]
         rw [bC (by omega),show ((m + 1:Nat):Int) + 1=((m + 2:Nat):Int) by omega]
         rw [P9 l hl _ k (by omega) (m + 2) (by omega)]; rfl
        ·rw [if_neg h3,if_neg h3]
         simp only [rT]
         rw [tQ (by omega)]; rfl
      ·rw [if_pos (by omega),rC,aC,gQ (show l.length≤m + 1 by omega)]
       have:vT l zE (Pr.er (tks l (m + 1)) 3)=(zE,((m + 1:Nat):Int),3):=tQ (by omega)
       rw [gQ (show l.length≤m + 1 by omega)] at this
       simp only [yN,rT,wrE,this]; try rfl
    ·rw [if_neg (by omega)]
  ·have hj2:=eS ho
   rw [aZ]
   by_cases h32:k=32
   ·left
    subst h32
    rw [if_pos (by omega)]
    show aQ _=some (Sum.inr (vT l zE (rT 32 (jL 0 (tks l j)))))
    unfold jL
    rw [ho]
    simp only [if_true,rT]
    rw [tQ (by omega)]; rfl
   ·right
    rw [if_neg (by omega),bC (by omega),bC (by omega)]
    refine ⟨_,rfl,⟨⟨?_,?_⟩,?_,?_⟩,?_,?_⟩
    ·simp only; omega
    ·simp only; omega
    ·simp only; omega
    ·simp only; omega
    ·simp only; omega
    ·simp only
     rw [show ((k:Int) + 1).toNat=k + 1 by omega,show ((j:Int) + 1).toNat=j + 1 by omega,show 32 - k=(32 - (k + 1)) + 1 by omega]
     congr 1
     conv=>rhs; unfold jL
     rw [ho,RK]
     simp only [if_true,dN]
     try rfl
 ·simp only [Int.toNat_natCast]
  show some (vT l zE (rT 0 (jL 32 (tks l i))))=some (vT l zE (jL 32 (tks l i)))
  congr 2
  cases jL 32 (tks l i) <;> rfl
abbrev zR:a6:=⟨[],⟨⟨[],[]⟩,0,0⟩,0,0,[]⟩
theorem mT (l:List aN) (i:Nat) (r:a6) (k:Int):dU k ⟨l,(i:Int),r⟩=some (isK k (tks l i)):=by
 unfold dU
 simp only [aV,aO,bI]
 by_cases h:i < l.length
 ·rw [if_pos (by omega),a8 (bJ h),sE h]
 ·rw [if_neg (by omega),gQ (by omega)]; rfl
theorem fD (l:List aN) (i:Nat) (r:a6):cN ⟨l,(i:Int),r⟩=some (wrE (tks l i)):=by
 unfold cN
 simp only [aV,aO,bI]
 by_cases h:i < l.length
 ·rw [if_neg (by omega),l6 h]; rfl
 ·rw [if_pos (by omega),gQ (by omega)]; rfl
theorem Ya {k:Int}{s:Str}{t:List Kt} (h:isK k t=false):isT k s t=false:=by
 rcases t with _ | ⟨x,r⟩
 ·rfl
 ·simp only [isK] at h
  simp only [isT,h,Bool.false_and]
theorem CC (l:List aN) (i:Nat) (r:a6) (k:Int) (s:Str):g8 k s ⟨l,(i:Int),r⟩=some (isT k s (tks l i)):=by
 unfold g8
 rw [eC,mT,bG]
 simp only [aV,bI]
 cases h:isK k (tks l i)
 ·rw [Ya h]; rfl
 ·have hlt:=kL h
  rw [sE hlt] at h
  rw [aZ,a8 (bJ hlt),EL hlt,h,Bool.true_and]
theorem iV (l:List aN) (i:Nat) (r:a6) (k:Int) (s:Str) (hl:l.length≤100000000):cX k s ⟨l,(i:Int),r⟩=some (isT k s (tks l i),⟨l,if isT k s (tks l i) then ((i + 1:Nat):Int) else (i:Int),r⟩):=by
 unfold cX
 rw [CC,bG]
 simp only [aV,bI]
 cases h:isT k s (tks l i)
 ·rfl
 ·have hlt:=eS h
  rw [aZ,bC (by omega)]; rfl
theorem LJ {t:List Kt} (h:isK 2 t=false):g9 t=wr t:=by
 rcases t with _ | ⟨x,r⟩
 ·rfl
 ·simp only [isK,decide_eq_false_iff_not] at h
  simp only [g9,if_neg h]; try rfl
theorem Jn {l:List aN}{i:Nat} (h:isK 2 (tks l i)=true):g9 (tks l i)=if (lD (nth l i).S).2=0 then .ok (lD (nth l i).S).1 (tks l (i + 1)) else .er (tks l i) (lD (nth l i).S).2:=by
 have hl:=kL h
 rw [l6 hl] at h ⊢
 simp only [isK,decide_eq_true_eq] at h
 simp only [g9,if_pos h]; try rfl
theorem Oa (l:List aN) (i:Nat) (r:a6) (hs:SmT l) (hi:i≤l.length):gS ⟨l,(i:Int),r⟩=some ((g9 (tks l i)).err,⟨l,mI l (g9 (tks l i)).rem,⟨r.Name,r.E,(g9 (tks l i)).val r.For,r.Keep,r.Labels⟩⟩):=by
 have hl:=hs.1
 unfold gS
 rw [mT,bG]
 simp only [aV,bP,aO,bI,eC]
 cases h:isK 2 (tks l i)
 ·rw [bA,fD,bG,LJ h]
  simp only [wr,Pr.err,Pr.rem,Pr.val,bU hi]
 ·have hlt:=kL h
  rw [aZ,a8 (bJ hlt),sY _ (hs.2 _ (dV hlt)),aC,Jn h]
  by_cases h0:(lD (nth l i).S).2=0
  ·rw [if_pos h0,if_pos h0,bC (by omega),show (i:Int) + 1=((i + 1:Nat):Int) by omega]
   simp only [Pr.err,Pr.rem,Pr.val,bU (show i + 1≤l.length by omega)]
  ·rw [if_neg h0,if_neg h0]
   simp only [Pr.err,Pr.rem,Pr.val,bU hi]
theorem K3 (l:List aN) (i:Nat) (r:a6) (hs:SmT l) (hi:i≤l.length):gE ⟨l,(i:Int),r⟩=some ((g9 (tks l i)).err,⟨l,mI l (g9 (tks l i)).rem,⟨r.Name,r.E,r.For,(g9 (tks l i)).val r.Keep,r.Labels⟩⟩):=by
 have hl:=hs.1
 unfold gE
 rw [mT,bG]
 simp only [aV,bP,aO,bI,eC]
 cases h:isK 2 (tks l i)
 ·rw [bA,fD,bG,LJ h]
  simp only [wr,Pr.err,Pr.rem,Pr.val,bU hi]
 ·have hlt:=kL h
  rw [aZ,a8 (bJ hlt),sY _ (hs.2 _ (dV hlt)),aC,Jn h]
  by_cases h0:(lD (nth l i).S).2=0
  ·rw [if_pos h0,if_pos h0,bC (by omega),show (i:Int) + 1=((i + 1:Nat):Int) by omega]
   simp only [Pr.err,Pr.rem,Pr.val,bU (show i + 1≤l.length by omega)]
  ·rw [if_neg h0,if_neg h0]
   simp only [Pr.err,Pr.rem,Pr.val,bU hi]
theorem RQ {l:List aN}{i:Nat}:oO (tks l i)=if isK 1 (tks l i) then (if isT 4 [61] (tks l (i + 1)) then (if isK 3 (tks l (i + 2)) then .ok ⟨(nth l i).S,(nth l (i + 2)).S⟩ (tks l (i + 3)) else wr (tks l (i + 2))) else wr (tks l (i + 1))) else wr (tks l i):=by
 rcases Nat.lt_or_ge i l.length with h | h
 ·rw [sE h]
  rw [l6 h]
  simp only [oO]
  have e:(kv (nth l i)).1=(nth l i).K:=rfl
  rw [e]
  by_cases h1:(nth l i).K=1
  ·simp only [h1,if_true,decide_true]
   cases h2:isT 4 [61] (tks l (i + 1))
   ·rfl
   ·simp only [if_true,dN]
    rcases Nat.lt_or_ge (i + 2) l.length with h3 | h3
    ·rw [sE h3,show i + 1 + 1=i + 2 by omega,l6 h3]
     simp only
     have e:(kv (nth l (i + 2))).1=(nth l (i + 2)).K:=rfl
     rw [e]
     by_cases h4:(nth l (i + 2)).K=3
     ·simp only [h4,if_true,decide_true]; try rfl
     ·simp only [h4,if_false,decide_false,Bool.false_eq_true]; try rfl
    ·rw [show i + 1 + 1=i + 2 by omega,gQ h3]; rfl
  ·simp only [h1,if_false,decide_false,Bool.false_eq_true]; try rfl
 ·rw [gQ h]; rfl
def vRr {α:Type} (l:List aN) (rl:a6) (z:α) (r:Pr α):α × Int × bD:=(r.val z,r.err,⟨l,mI l r.rem,rl⟩)
theorem RA {α:Type}{l:List aN}{rl:a6}{z:α}{j:Nat}{e:Int} (h:j≤l.length):vRr l rl z (.er (tks l j) e)=(z,e,⟨l,(j:Int),rl⟩):=by
 simp only [vRr,Pr.val,Pr.rem,Pr.err,bU h]
theorem RO {α:Type}{l:List aN}{rl:a6}{z a:α}{j:Nat} (h:j≤l.length):vRr l rl z (.ok a (tks l j))=(a,0,⟨l,(j:Int),rl⟩):=by
 simp only [vRr,Pr.val,Pr.rem,Pr.err,bU h]
theorem MV {α:Type}{l:List aN}{rl:a6}{z:α}{j:Nat} (h:j≤l.length):vRr l rl z (wr (tks l j))=(z,wrE (tks l j),⟨l,(j:Int),rl⟩):=RA h
theorem LK (l:List aN) (i:Nat) (r:a6) (hl:l.length≤100000000) (hi:i≤l.length):j3 ⟨l,(i:Int),r⟩=some (vRr l r ⟨[],[]⟩ (oO (tks l i))):=by
 unfold j3
 rw [mT,bG,RQ]
 simp only [aV,bP,aO,bI]
 cases h:isK 1 (tks l i)
 ·simp only [bA,Bool.false_eq_true,if_false]
  rw [fD,bG,MV hi]
 ·have hlt:=kL h
  simp only [aZ,if_true]
  rw [a8 (bJ hlt),bC (by omega),show (i:Int) + 1=((i + 1:Nat):Int) by omega,iV l (i + 1) r 4 _ hl,bG]
  cases h2:isT 4 [61] (tks l (i + 1))
  ·simp only [bA,Bool.false_eq_true,if_false]
   rw [fD,bG,MV (by omega)]
  ·have:=eS h2
   simp only [aZ,if_true]
   rw [mT,bG]
   cases h3:isK 3 (tks l (i + 1 + 1))
   ·simp only [bA,Bool.false_eq_true,if_false]
    rw [fD,bG,MV (by omega)]
   ·have h4:=kL h3
    simp only [aZ,if_true]
    rw [a8 (bJ h4),bC (by omega),RO (by omega)]; rfl
def xG (more:Bool) (acc:List aY) (t:List Kt):Pr (List aY) :=
 if more then (match wQ acc t with
  | .er u e=>.er u e
  | .ok l u=>CM l u) else (if isT 4 [125] t then CM acc t else wr t)
theorem Q5 (acc:List aY) (t:List Kt):xG true acc t=match oO t with
  | .er u e=>.er u e
  | .ok p u=>if isT 4 [44] u then xG true (acc ++ [p]) u.tail else xG false (acc ++ [p]) u:=by
 conv=>lhs; unfold xG
 rw [if_pos rfl,EC]
 cases oO t with
 | er u e=>rfl
 | ok p u=>
  simp only
  cases h:isT 4 [125] u
  ·cases h2:isT 4 [44] u
   ·simp only [Bool.false_eq_true,if_false,xG,h]; try rfl
   ·simp only [Bool.false_eq_true,if_false,xG,if_true]
  ·have e:=uQ h
   have:isT 4 [44] u=false:=by rw [e]; exact pH _ (.inl (by decide))
   simp only [if_true,xG,h,this,Bool.false_eq_true,if_false]
theorem QN (t:List Kt):mU t=if isT 4 [123] t then xG (!isT 4 [125] t.tail) [] t.tail else wr t:=by
 unfold mU
 cases isT 4 [123] t
 ·rfl
 ·simp only [if_true]
  cases h:isT 4 [125] t.tail
  ·simp only [Bool.false_eq_true,if_false,Bool.not_false,xG,if_true]; try rfl
  ·simp only [if_true,Bool.not_true,xG,h,Bool.false_eq_true,if_false]
theorem QO {l:List aY}:(g7 l).1.length≤l.length:=by
 unfold g7; split
 ·exact Nat.le_of_eq (xU l).length_eq
 ·simp
theorem IQ (l:List aN) (i:Nat) (r:a6) (hl:l.length≤100000000) (hi:i≤l.length):iQ ⟨l,(i:Int),r⟩=some ((mU (tks l i)).err,⟨l,mI l (mU (tks l i)).rem,⟨r.Name,r.E,r.For,r.Keep,(mU (tks l i)).val r.Labels⟩⟩):=by
 unfold iQ
 rw [iV l i r 4 _ hl,bG,QN]
 simp only [aV,eU,sC,bP,aO,bI]
 cases h:isT 4 [123] (tks l i)
 ·simp only [bA,Bool.false_eq_true,if_false]
  rw [fD,bG]
  simp only [wr,Pr.err,Pr.rem,Pr.val,bU hi]
 ·have hlt:=eS h
  simp only [aZ,if_true,dN]
  rw [CC,bG]
  obtain ⟨nm,⟨⟨sn,sm⟩,op,v⟩,fr,kp,lb⟩:=r
  refine (dZ (fun x:(List aN) × Int × Str × Str × (List bS) × Int × Int × Int × Int × (List aY) × (List aY) × Bool=>∃ (j:Nat) (acc:List aY) (more:Bool),x=(l,(j:Int),nm,sn,sm,op,v,fr,kp,lb,acc,more)∧j≤l.length∧acc.length≤j) (fun x=>l.length - x.2.1.toNat)
   (fun x=>let g:=xG x.2.2.2.2.2.2.2.2.2.2.2 x.2.2.2.2.2.2.2.2.2.2.1 (tks l x.2.1.toNat); (g.err,⟨l,mI l g.rem,⟨nm,⟨⟨sn,sm⟩,op,v⟩,fr,kp,g.val lb⟩⟩)) ?_ ⟨i + 1,[],_,rfl,by omega,by simp⟩).trans (by simp only [Int.toNat_natCast])
  rintro _ ⟨j,acc,more,rfl,hj,ha⟩
  simp only [Int.toNat_natCast]
  cases more
  ·left
   rw [bA,CC,bG]
   unfold xG
   simp only [Bool.false_eq_true,if_false]
   cases h2:isT 4 [125] (tks l j)
   ·simp only [bA,Bool.false_eq_true,if_false]
    rw [fD,bG]
    simp only [wr,Pr.err,Pr.rem,Pr.val,bU hj]; try rfl
   ·have hj2:=eS h2
    simp only [aZ,if_true]
    rw [KJ,aC]
    unfold CM
    by_cases h0:(g7 acc).2=0
    ·rw [if_pos h0,if_pos h0,y4 _ (by have:=@QO acc; omega),aC]
     cases h3:(g7 acc).1.any fun p=>tV p.1
     ·simp only [bA,Bool.false_eq_true,if_false]
      rw [bC (by omega),dN,show (j:Int) + 1=((j + 1:Nat):Int) by omega]
      simp only [Pr.err,Pr.rem,Pr.val,bU (show j + 1≤l.length by omega)]; try rfl
     ·simp only [aZ,if_true]
      simp only [Pr.err,Pr.rem,Pr.val,bU hj]; try rfl
    ·rw [if_neg h0,if_neg h0]
     simp only [Pr.err,Pr.rem,Pr.val,bU hj]; try rfl
  ·rw [aZ,LK l j _ hl hj,bG,Q5]
   rcases (xX (tks l j)).toks hj with ⟨e,m,hr,h1,h2,h0,_⟩ | ⟨p,m,hr,h1,h2,hq⟩ <;> rw [hr]
   ·left
    rw [RA h2]
    simp only [if_neg h0]
    simp only [Pr.err,Pr.rem,Pr.val,bU h2]; try rfl
   ·right
    rw [RO h2]
    simp only [if_true]
    rw [aM (by simp only [List.length_cons,List.length_nil]; omega),iV l m _ 4 _ hl,bG]
    cases h3:isT 4 [44] (tks l m)
    ·refine ⟨_,rfl,⟨m,acc ++ [p],false,rfl,h2,by simp only [List.length_append,List.length_singleton]; omega⟩,?_,?_⟩
     ·simp only [Bool.false_eq_true,if_false,Int.toNat_natCast]; omega
     ·simp only [Bool.false_eq_true,if_false,Int.toNat_natCast]
    ·have hm:=eS h3
     refine ⟨_,rfl,⟨m + 1,acc ++ [p],true,rfl,by omega,by simp only [List.length_append,List.length_singleton]; omega⟩,?_,?_⟩
     ·simp only [if_true,Int.toNat_natCast]; omega
     ·simp only [if_true,Int.toNat_natCast,dN]
def GT (r:a6) (t:List Kt):Pr a6:=if isT 4 [59] t then .ok r t.tail else wr t
def Cr (r:a6) (t:List Kt):Pr a6:=if isT 1 lR t then (match mU t.tail with
 | .er u e=>.er u e
 | .ok m u=>GT ⟨r.Name,r.E,r.For,r.Keep,m⟩ u) else GT r t
def CJ (r:a6) (t:List Kt):Pr a6:=if isT 1 jE t then (match g9 t.tail with
 | .er u e=>.er u e
 | .ok d u=>Cr ⟨r.Name,r.E,r.For,d,r.Labels⟩ u) else Cr r t
def Fa (r:a6) (t:List Kt):Pr a6:=if isT 1 kG t then (match g9 t.tail with
 | .er u e=>.er u e
 | .ok d u=>CJ ⟨r.Name,r.E,d,r.Keep,r.Labels⟩ u) else CJ r t
theorem K8 (nm:Str) (x:cG) (fr kp:Int) (t:List Kt):(match pR t with
   | .er u e=>.er u e
   | .ok l t3=>if isT 4 [59] t3 then .ok ⟨nm,x,fr,kp,l⟩ t3.tail else wr t3:Pr a6)=Cr ⟨nm,x,fr,kp,[]⟩ t:=by
 unfold pR Cr
 cases isT 1 lR t
 ·rfl
 ·simp only [if_true]
  cases mU t.tail <;> rfl
theorem LA (nm:Str) (x:cG) (fr:Int) (t:List Kt):(match CU jE t with
   | .er u e=>.er u e
   | .ok kp t2=>match pR t2 with
    | .er u e=>.er u e
    | .ok l t3=>if isT 4 [59] t3 then .ok ⟨nm,x,fr,kp,l⟩ t3.tail else wr t3:Pr a6)=CJ ⟨nm,x,fr,0,[]⟩ t:=by
 unfold CU CJ
 cases isT 1 jE t
 ·exact K8 nm x fr 0 t
 ·simp only [if_true]
  cases g9 t.tail with
  | er u e=>rfl
  | ok d u=>exact K8 nm x fr d u
theorem Pw (nm:Str) (x:cG) (t:List Kt):Au nm x t=Fa ⟨nm,x,0,0,[]⟩ t:=by
 unfold Au Fa
 rw [show CU kG t=if isT 1 kG t then g9 t.tail else .ok 0 t from rfl]
 cases isT 1 kG t
 ·exact LA nm x 0 t
 ·simp only [if_true]
  cases g9 t.tail with
  | er u e=>rfl
  | ok d u=>exact LA nm x d u
def IsR (l:List aN) (T:Pr a6) (x:Int × bD):Prop:=x.1=T.err∧x.2.l=l∧x.2.i=mI l T.rem∧∀ a u,T=.ok a u→x.2.r=a
theorem IsR.er {l:List aN}{j:Nat}{e i:Int}{r:a6} (hj:j≤l.length) (hi:i=(j:Int)):IsR l (.er (tks l j) e) (e,⟨l,i,r⟩) :=
 ⟨rfl,rfl,by simp only [Pr.rem,bU hj,hi],fun _ _ h=>by cases h⟩
theorem IsR.ok {l:List aN}{j:Nat}{i:Int}{r:a6} (hj:j≤l.length) (hi:i=(j:Int)):IsR l (.ok r (tks l j)) (0,⟨l,i,r⟩) :=
 ⟨rfl,rfl,by simp only [Pr.rem,bU hj,hi],fun _ _ h=>by cases h; rfl⟩
def WM (k:Int) (r:a6) (t:List Kt):Pr a6:=if k=0 then Fa r t else if k=1 then CJ r t else if k=2 then Cr r t else GT r t
theorem T8 {β:Type} (a b c:Option β):Fd 0 a b c=a:=rfl
theorem Um {β:Type} (a b c:Option β):Fd 1 a b c=b:=rfl
theorem TK {β:Type} (a b c:Option β):Fd 2 a b c=c:=rfl
theorem RH (l:List aN) (i:Nat) (r:a6) (hs:SmT l) (hi:i≤l.length):iY ⟨l,(i:Int),r⟩=some ((g9 (tks l i)).err,⟨l,mI l (g9 (tks l i)).rem,⟨r.Name,r.E,(g9 (tks l i)).val r.For,r.Keep,r.Labels⟩⟩):=by
 unfold iY
 rw [rX,Oa l i r hs hi,bG]; rfl
theorem QR (l:List aN) (i:Nat) (r:a6) (hs:SmT l) (hi:i≤l.length):iO ⟨l,(i:Int),r⟩=some ((g9 (tks l i)).err,⟨l,mI l (g9 (tks l i)).rem,⟨r.Name,r.E,r.For,(g9 (tks l i)).val r.Keep,r.Labels⟩⟩):=by
 unfold iO
 rw [rX,K3 l i r hs hi,bG]; rfl
theorem MG (l:List aN) (i:Nat) (hs:SmT l) (hi:i≤l.length):∃ x,iC ⟨l,(i:Int),zR⟩=some x∧IsR l (lY (tks l i)) x:=by
 have hl:=hs.1
 unfold iC
 rw [iV l i _ 1 _ hl,bG]
 simp only [aV,eU,Gf,rX,bP,aO,bI]
 unfold lY
 cases h:isT 1 [114,117,108,101] (tks l i)
 ·have h':isT 1 mO (tks l i)=false:=h
  simp only [bA,Bool.false_eq_true,if_false,h']
  rw [fD,bG]
  exact ⟨_,rfl,IsR.er hi rfl⟩
 ·have h':isT 1 mO (tks l i)=true:=h
  have hlt:=eS h
  simp only [aZ,if_true,dN,h']
  rw [mT,bG]
  cases h2:isK 1 (tks l (i + 1))
  ·simp only [bA,Bool.false_eq_true,if_false]
   rw [fD,bG,IV h2]
   exact ⟨_,rfl,IsR.er (show i + 1≤l.length by omega) rfl⟩
  ·have hlt2:=kL h2
   simp only [aZ]
   rw [a8 (bJ hlt2),jA,aC,GF h2]
   cases h3:cJ (nth l (i + 1)).S
   ·simp only [bA,Bool.false_eq_true,if_false]
    exact ⟨_,rfl,IsR.er (show i + 1≤l.length by omega) rfl⟩
   ·simp only [aZ,if_true]
    rw [bC (by omega),show ((i + 1:Nat):Int) + 1=((i + 2:Nat):Int) by omega,iV l (i + 2) _ 4 _ hl,bG]
    cases h4:isT 4 [58] (tks l (i + 2))
    ·have h4':isT 4 [58] (tks l (i + 1 + 1))=false:=h4
     simp only [bA,Bool.false_eq_true,if_false,h4']
     rw [fD,bG]
     exact ⟨_,rfl,IsR.er (show i + 2≤l.length by omega) rfl⟩
    ·have h4':isT 4 [58] (tks l (i + 1 + 1))=true:=h4
     have hlt4:=eS h4
     simp only [aZ,if_true,h4',dN]
     rw [Kg l (i + 2 + 1) hs (by omega),aC]
     show ∃ x,_∧IsR l (match Ce (tks l (i + 2 + 1)) with
      | .er u e=>.er u e
      | .ok x t2=>Au (nth l (i + 1)).S x t2) x
     rcases (show bH (tks l (i + 2 + 1)) (Ce (tks l (i + 2 + 1))) _ _ from yS 32 _).toks (by omega) with ⟨e,m,hr,h5,h6,h0,_⟩ | ⟨x,m,hr,h5,h6,hq⟩ <;> rw [hr]
     ·rw [tQ h6]
      simp only [if_neg h0]
      exact ⟨_,rfl,IsR.er h6 rfl⟩
     ·rw [Hz h6]
      simp only [if_true]
      rw [Pw]
      generalize (nth l (i + 1)).S=nm at *
      generalize hT:Fa ⟨nm,x,0,0,[]⟩ (tks l m)=T
      refine yA (fun y:(List aN) × Int × Str × Str × (List bS) × Int × Int × Int × Int × (List aY) × Int=>∃ (j:Nat) (q:a6) (k:Int),y=(l,(j:Int),q.Name,q.E.S.Name,q.E.S.M,q.E.Op,q.E.V,q.For,q.Keep,q.Labels,k)∧j≤l.length∧(0≤k∧k≤3)∧WM k q (tks l j)=T) (fun y=>4 - y.2.2.2.2.2.2.2.2.2.2.toNat) (fun x=>IsR l T x) ?_ ⟨m,⟨nm,x,0,0,[]⟩,0,rfl,h6,by omega,hT⟩
      rintro _ ⟨j,⟨qn,⟨⟨qs,qm⟩,qo,qv⟩,qf,qk,ql⟩,k,rfl,hj,hk,hsp⟩
      have:k=0 ∨ k=1 ∨ k=2 ∨ k=3:=by omega
      rcases this with rfl | rfl | rfl | rfl
      ·simp only [T8,show ((0:Int) < 3)=True from by simp,if_true]
       rw [iV l j _ 1 _ hl,bG,show wI ((0:Int) + 1)=1 from by decide]
       have hsp:Fa ⟨qn,⟨⟨qs,qm⟩,qo,qv⟩,qf,qk,ql⟩ (tks l j)=T:=hsp
       unfold Fa at hsp
       cases hF:isT 1 [102,111,114] (tks l j)
       ·have hF':isT 1 kG (tks l j)=false:=hF
        rw [hF'] at hsp
        right
        exact ⟨_,rfl,⟨j,⟨qn,⟨⟨qs,qm⟩,qo,qv⟩,qf,qk,ql⟩,1,rfl,hj,by omega,hsp⟩,by simp⟩
       ·have hF':isT 1 kG (tks l j)=true:=hF
        have hj2:=eS hF
        rw [hF'] at hsp
        simp only [aZ,if_true,dN] at hsp ⊢
        rw [RH l (j + 1) _ hs (by omega),bG]
        rcases (wO (tks l (j + 1))).toks (by omega) with ⟨e,m,hr,h5,h6,h0,_⟩ | ⟨d,m,hr,h5,h6,hq⟩ <;> rw [hr] at hsp ⊢
        ·left
         simp only [Pr.err,Pr.rem,Pr.val,bU h6,if_neg h0]
         subst hsp
         exact ⟨_,rfl,IsR.er h6 rfl⟩
        ·right
         simp only [Pr.err,Pr.rem,Pr.val,bU h6,if_true]
         exact ⟨_,rfl,⟨m,⟨qn,⟨⟨qs,qm⟩,qo,qv⟩,d,qk,ql⟩,1,rfl,h6,by omega,hsp⟩,by simp⟩
      ·simp only [Um,show ((1:Int) < 3)=True from by simp,if_true]
       rw [iV l j _ 1 _ hl,bG,show wI ((1:Int) + 1)=2 from by decide]
       have hsp:CJ ⟨qn,⟨⟨qs,qm⟩,qo,qv⟩,qf,qk,ql⟩ (tks l j)=T:=hsp
       unfold CJ at hsp
       cases hF:isT 1 [107,101,101,112] (tks l j)
       ·have hF':isT 1 jE (tks l j)=false:=hF
        rw [hF'] at hsp
        right
        exact ⟨_,rfl,⟨j,⟨qn,⟨⟨qs,qm⟩,qo,qv⟩,qf,qk,ql⟩,2,rfl,hj,by omega,hsp⟩,by simp⟩
       ·have hF':isT 1 jE (tks l j)=true:=hF
        have hj2:=eS hF
        rw [hF'] at hsp
        simp only [aZ,if_true,dN] at hsp ⊢
        rw [QR l (j + 1) _ hs (by omega),bG]
        rcases (wO (tks l (j + 1))).toks (by omega) with ⟨e,m,hr,h5,h6,h0,_⟩ | ⟨d,m,hr,h5,h6,hq⟩ <;> rw [hr] at hsp ⊢
        ·left
         simp only [Pr.err,Pr.rem,Pr.val,bU h6,if_neg h0]
         subst hsp
         exact ⟨_,rfl,IsR.er h6 rfl⟩
        ·right
         simp only [Pr.err,Pr.rem,Pr.val,bU h6,if_true]
         exact ⟨_,rfl,⟨m,⟨qn,⟨⟨qs,qm⟩,qo,qv⟩,qf,d,ql⟩,2,rfl,h6,by omega,hsp⟩,by simp⟩
      ·simp only [TK,show ((2:Int) < 3)=True from by simp,if_true]
       rw [iV l j _ 1 _ hl,bG,show wI ((2:Int) + 1)=3 from by decide]
       have hsp:Cr ⟨qn,⟨⟨qs,qm⟩,qo,qv⟩,qf,qk,ql⟩ (tks l j)=T:=hsp
       unfold Cr at hsp
       cases hF:isT 1 [108,97,98,101,108,115] (tks l j)
       ·have hF':isT 1 lR (tks l j)=false:=hF
        rw [hF'] at hsp
        right
        exact ⟨_,rfl,⟨j,⟨qn,⟨⟨qs,qm⟩,qo,qv⟩,qf,qk,ql⟩,3,rfl,hj,by omega,hsp⟩,by simp⟩
       ·have hF':isT 1 lR (tks l j)=true:=hF
        have hj2:=eS hF
        rw [hF'] at hsp
        simp only [aZ,if_true,dN] at hsp ⊢
        rw [IQ l (j + 1) _ hl (by omega),bG]
        rcases (DU (tks l (j + 1))).toks (by omega) with ⟨e,m,hr,h5,h6,h0,_⟩ | ⟨d,m,hr,h5,h6,hq⟩ <;> rw [hr] at hsp ⊢
        ·left
         simp only [Pr.err,Pr.rem,Pr.val,bU h6,if_neg h0]
         subst hsp
         exact ⟨_,rfl,IsR.er h6 rfl⟩
        ·right
         simp only [Pr.err,Pr.rem,Pr.val,bU h6,if_true]
         exact ⟨_,rfl,⟨m,⟨qn,⟨⟨qs,qm⟩,qo,qv⟩,qf,qk,d⟩,3,rfl,h6,by omega,hsp⟩,by simp⟩
      ·left
       simp only [show ((3:Int) < 3)=False from by simp,if_false]
       rw [iV l j _ 4 _ hl,bG]
       have hsp:GT ⟨qn,⟨⟨qs,qm⟩,qo,qv⟩,qf,qk,ql⟩ (tks l j)=T:=hsp
       unfold GT at hsp
       cases hF:isT 4 [59] (tks l j)
       ·rw [hF] at hsp
        simp only [bA,Bool.false_eq_true,if_false] at hsp ⊢
        rw [fD,bG]
        subst hsp
        exact ⟨_,rfl,IsR.er hj rfl⟩
       ·have hj2:=eS hF
        rw [hF] at hsp
        simp only [aZ,if_true,dN] at hsp ⊢
        subst hsp
        exact ⟨_,rfl,IsR.ok (show j + 1≤l.length by omega) rfl⟩
theorem Kf (l:List aN) (i:Nat) (hs:SmT l):nZ l (i:Int)=some (vT l zR (lY (tks l i))):=by
 have hl:=hs.1
 unfold nZ
 simp only [aV,aO,bP,bI,rX]
 have key:∀ j:Nat,j≤l.length→(bV [1] [.box [vS ([]:Str),vS ([]:Str),.v (.slice none 0 0),vI (0:Int),vI (0:Int),vI (0:Int),vI (0:Int),.v (.slice none 0 0)],.box [sl aB l,vI (j:Int),vS ([]:Str),vS ([]:Str),sl aH ([]:List bS),vI (0:Int),vI (0:Int),vI (0:Int),vI (0:Int),sl aK ([]:List aY)]] (fun x4=>vI x4.1) (fun x4=>[.box [vS ([]:Str),vS ([]:Str),.v (.slice none 0 0),vI (0:Int),vI (0:Int),vI (0:Int),vI (0:Int),.v (.slice none 0 0)],.box [sl aB x4.2.l,vI x4.2.i,vS x4.2.r.Name,vS x4.2.r.E.S.Name,sl aH x4.2.r.E.S.M,vI x4.2.r.E.Op,vI x4.2.r.E.V,vI x4.2.r.For,vI x4.2.r.Keep,sl aK x4.2.r.Labels]]) (iC ⟨l,(j:Int),zR⟩) fun x4=>
   if x4.1=0 then some (x4.2.r,x4.2.i,(0:Int)) else some (zR,x4.2.i,x4.1))=some (vT l zR (lY (tks l j))):=by
  intro j hj
  obtain ⟨⟨e,⟨l',i',r'⟩⟩,hx,h1,h2,h3,h4⟩:=MG l j hs hj
  rw [hx,bG]
  simp only at h1 h2 h3 h4 ⊢
  rcases (yC (tks l j)).toks hj with ⟨e',m,hr,h5,h6,h0,_⟩ | ⟨a,m,hr,h5,h6,hq⟩ <;> rw [hr] at h1 h3 h4 ⊢
  ·rw [tQ h6]
   simp only [Pr.err,Pr.rem,bU h6] at h1 h3
   rw [h1,h3,if_neg h0]
  ·rw [Hz h6]
   simp only [Pr.err,Pr.rem,bU h6] at h1 h3
   rw [h1,h3,if_pos rfl,h4 a _ rfl]
 rw [if_neg (by omega)]
 rcases Nat.lt_or_ge i l.length with h | h
 ·rw [show min (i:Int) (l.length:Int)=(i:Int) by omega]
  exact key i (by omega)
 ·rw [show min (i:Int) (l.length:Int)=(l.length:Int) by omega,gQ h]
  have:=key l.length (Nat.le_refl _)
  rw [gQ (Nat.le_refl _)] at this
  exact this
end Go.Proofs.YthgenmkengbmmaaGreatDoor.AM
namespace Go.Proofs.YthgenmkengbmmaaGreatDoor.AM

open Go
end Go.Proofs.YthgenmkengbmmaaGreatDoor.AM
namespace Go.Proofs.YthgenmkengbmmaaGreatDoor.AM

open Go
end Go.Proofs.YthgenmkengbmmaaGreatDoor.AM
namespace Go.Proofs.YthgenmkengbmmaaGreatDoor.AM
open Go
open Go.Lib (decDigits)
theorem mK {s:Str} (h:cJ s=true):s.length≤64:=by
 obtain ⟨c,w,rfl,_,_,h4⟩:=FJ h
 simp only [List.length_cons]; omega
theorem CV {m:bS} (h:mOk m=true):(matchS m).length≤200:=by
 simp only [mOk,Bool.and_eq_true,decide_eq_true_eq] at h
 have h1:=mK h.1
 have h2:=AF m.Value
 unfold matchS
 simp only [List.length_append]
 have:(if m.Not=true then ([33,61]:Str) else [61]).length≤2:=by split <;> simp
 omega
def BG (s:cT):Str:=if kD s then selS s else []
theorem CH {s:cT} (h:kD s=true):cJ s.Name=true∧s.M.length≤8∧∀ m ∈ s.M,mOk m=true:=by
 simp only [kD,Bool.and_eq_true,decide_eq_true_eq,List.all_eq_true] at h
 exact ⟨h.1.1,h.1.2,h.2⟩
theorem La (s:cT):wB s=some (BG s):=by
 unfold wB BG
 rw [FX,aC]
 simp only [aV,eC,bP,aO,bI]
 cases h:kD s
 ·rfl
 obtain ⟨h1,h2,h3⟩:=CH h
 have hn:=mK h1
 simp only [aZ,if_true]
 unfold selS
 by_cases hM:s.M=[]
 ·rw [if_pos (by rw [hM]; rfl),if_pos hM,List.append_nil]
 ·have hpos:0 < s.M.length:=List.length_pos_iff.2 hM
  rw [if_neg (by omega),if_neg hM]
  refine (tD s.M.length (fun i t=>t.length≤64 + 201 * i) (fun i t=>t ++ selM (if i=0 then 123 else 44) (s.M.drop i) ++ [125]) ?_ ?_ (by omega)).trans (by simp)
  ·intro i t hi ht
   right
   have hm:=h3 _ (dV hi)
   have hl:=CV hm
   have hm':=hm
   simp only [mOk,Bool.and_eq_true,decide_eq_true_eq] at hm'
   have hnl:=mK hm'.1
   have hq:=AF (nth s.M i).Value
   rw [if_pos (by simp only; omega),a8 (bJ hi),dI hi]
   simp only [DX _ (show (nth s.M i).Value.length≤100000000 by omega),aC]
   simp only [selM]
   rw [bC (show -9223372036854775808≤(i:Int) + 1∧_ by omega),show (i:Int) + 1=((i + 1:Nat):Int) by omega]
   have fin:∀ (b:UInt8) (y:Str),y=b :: matchS (nth s.M i)→(if i=0 then 123 else 44)=b→∃ a',(some (Sum.inl (((i + 1:Nat):Int),t ++ y)):Option ((Int × Str) ⊕ Str))=some (Sum.inl (((i + 1:Nat):Int),a'))∧a'.length≤64 + 201 * (i + 1) ∧
     a' ++ selM (if i + 1=0 then 123 else 44) (s.M.drop (i + 1)) ++ [125]=t ++ (if i=0 then 123 else 44) :: (matchS (nth s.M i) ++ selM 44 (s.M.drop (i + 1))) ++ [125]:=by
    intro b y hy hb
    refine ⟨_,rfl,?_,?_⟩
    ·rw [hy,List.length_append,List.length_cons]; omega
    ·rw [hy,hb,if_neg (by omega)]; simp
   by_cases h0:i=0
   ·rw [if_pos (by omega)]
    cases hnt:(nth s.M i).Not
    ·rw [bA,aM (by simp; omega),aM (by simp; omega),aM (by simp; omega),aM (by simp; omega)]
     exact fin 123 _ (by simp [matchS,hnt]) (if_pos h0)
    ·rw [aZ,aM (by simp; omega),aM (by simp; omega),aM (by simp; omega),aM (by simp; omega)]
     exact fin 123 _ (by simp [matchS,hnt]) (if_pos h0)
   ·rw [if_neg (by omega)]
    cases hnt:(nth s.M i).Not
    ·rw [bA,aM (by simp; omega),aM (by simp; omega),aM (by simp; omega),aM (by simp; omega)]
     exact fin 44 _ (by simp [matchS,hnt]) (if_neg h0)
    ·rw [aZ,aM (by simp; omega),aM (by simp; omega),aM (by simp; omega),aM (by simp; omega)]
     exact fin 44 _ (by simp [matchS,hnt]) (if_neg h0)
  ·intro t ht
   rw [if_neg (by simp only; omega)]
   rw [aM (by simp; omega)]
   simp [selM]
theorem IP (s:cT) (hs:L8 s):qR s=some (BG s):=by
 unfold qR BG
 rw [Dx s hs,aC]
 simp only [aV,eC,bP,aO,bI]
 cases h:kD s
 ·rfl
 obtain ⟨h1,h2,h3⟩:=CH h
 have hn:=mK h1
 simp only [aZ,if_true]
 refine (fC s.M.length (fun i t=>t.length≤64 + 201 * i) (fun i t=>t ++ selM (if i=0 then 123 else 44) (s.M.drop i) ++ if s.M=[] then [] else [125]) ?_ ?_ (by omega)).trans ?_
 ·intro i t hi ht
  right
  have hm:=h3 _ (dV hi)
  have hl:=CV hm
  have hm':=hm
  simp only [mOk,Bool.and_eq_true,decide_eq_true_eq] at hm'
  have hnl:=mK hm'.1
  have hq:=AF (nth s.M i).Value
  rw [if_pos (by simp only; omega),dI hi]
  simp only [a8 (bJ hi),BB _ (show (nth s.M i).Value.length≤100000000 by omega),aC]
  simp only [selM]
  rw [bC (show -9223372036854775808≤(i:Int) + 1∧_ by omega),show (i:Int) + 1=((i + 1:Nat):Int) by omega]
  have fin:∀ (b:UInt8) (y:Str),y=t ++ b :: matchS (nth s.M i)→(if i=0 then 123 else 44)=b→∃ a',(some (Sum.inl (y,((i + 1:Nat):Int))):Option ((Str × Int) ⊕ Str))=some (Sum.inl (a',((i + 1:Nat):Int)))∧a'.length≤64 + 201 * (i + 1) ∧
    (a' ++ selM (if i + 1=0 then 123 else 44) (s.M.drop (i + 1)) ++ if s.M=[] then [] else [125])=t ++ (if i=0 then 123 else 44) :: (matchS (nth s.M i) ++ selM 44 (s.M.drop (i + 1))) ++ if s.M=[] then [] else [125]:=by
   intro b y hy hb
   refine ⟨_,rfl,?_,?_⟩
   ·rw [hy,List.length_append,List.length_cons]; omega
   ·rw [hy,hb,if_neg (show ¬ i + 1=0 by omega)]; simp
  by_cases h0:i=0
  ·rw [if_pos (by omega)]
   cases hnt:(nth s.M i).Not
   ·rw [bA,aM (by simp; omega),aM (by simp; omega),aM (by simp; omega),aM (by simp; omega)]
    exact fin 123 _ (by simp [matchS,hnt]) (if_pos h0)
   ·rw [aZ,aM (by simp; omega),aM (by simp; omega),aM (by simp; omega),aM (by simp; omega),aM (by simp; omega)]
    exact fin 123 _ (by simp [matchS,hnt]) (if_pos h0)
  ·rw [if_neg (by omega)]
   cases hnt:(nth s.M i).Not
   ·rw [bA,aM (by simp; omega),aM (by simp; omega),aM (by simp; omega),aM (by simp; omega)]
    exact fin 44 _ (by simp [matchS,hnt]) (if_neg h0)
   ·rw [aZ,aM (by simp; omega),aM (by simp; omega),aM (by simp; omega),aM (by simp; omega),aM (by simp; omega)]
    exact fin 44 _ (by simp [matchS,hnt]) (if_neg h0)
 ·intro t ht
  rw [if_neg (by simp only; omega)]
  by_cases hM:s.M=[]
  ·rw [if_neg (by rw [hM]; decide),if_pos hM,hM]; simp [selM]
  ·have hpos:0 < s.M.length:=List.length_pos_iff.2 hM
   rw [if_pos (by omega),if_neg hM,aM (by simp; omega)]
   simp [selM]
 ·unfold selS
  by_cases hM:s.M=[]
  ·simp [hM,selM]
  ·simp [hM]
theorem Mg:∀ (ms:List bS) (b:UInt8),(∀ m ∈ ms,mOk m=true)→(selM b ms).length≤201 * ms.length
 | [],b,_=>by simp [selM]
 | m :: ms,b,h=>by
  unfold selM
  have h1:=CV (h m (by simp))
  have h2:=Mg ms 44 (fun x hx=>h x (by simp [hx]))
  simp only [List.length_cons,List.length_append]; omega
theorem Gl {s:cT} (h:kD s=true):(selS s).length≤2000:=by
 obtain ⟨h1,h2,h3⟩:=CH h
 have:=mK h1
 have:=Mg s.M 123 h3
 unfold selS
 split
 ·simp; omega
 ·simp only [List.length_append,List.length_singleton]; omega
theorem CQ (v:Int):(printN v).length≤31:=by
 unfold printN
 split
 ·rename_i h
  have hv:=nE.1 h
  have:=Hu (show v.natAbs≤9007199254740992 by omega)
  split
  ·simp only [List.length_cons]; omega
  ·omega
 ·simp
theorem D2 (k:Int):(signS k).length≤2:=by
 unfold signS
 repeat' split
 all_goals simp
def Cb (x:cG):Str:=if iJ x then condS x else []
theorem Bl {x:cG} (h:iJ x=true):kD x.S=true∧(1≤x.Op∧x.Op≤6)∧oK x.V=true:=by
 simp only [iJ,Bool.and_eq_true,decide_eq_true_eq] at h
 exact ⟨h.1.1,h.1.2,h.2⟩
theorem DZ {x:cG} (h:iJ x=true):(condS x).length≤2100:=by
 obtain ⟨h1,_,_⟩:=Bl h
 have:=Gl h1
 have:=CQ x.V
 have:=D2 x.Op
 unfold condS
 simp only [List.length_append,List.length_cons]; omega
theorem Ov {k:Int} (h:1≤k∧k≤6):gl1[k.toNat]?=some (signS k)∧([[62],[62,61],[60],[60,61],[61,61],[33,61]]:List Str)[(k - 1).toNat]?=some (signS k):=by
 have:k=1 ∨ k=2 ∨ k=3 ∨ k=4 ∨ k=5 ∨ k=6:=by omega
 rcases this with rfl | rfl | rfl | rfl | rfl | rfl <;> exact ⟨rfl,rfl⟩
theorem Ka (x:cG):uA x=some (Cb x):=by
 unfold uA Cb
 rw [DW,aC]
 simp only [aV,eC,bP,bI]
 cases h:iJ x
 ·rfl
 obtain ⟨h1,h2,h3⟩:=Bl h
 have l1:=Gl h1
 have l2:=CQ x.V
 have l3:=D2 x.Op
 simp only [aZ,if_true]
 rw [La,aC]
 unfold BG
 rw [if_pos h1,aM (by simp; omega),gL (by omega) (Ov h2).1,aM (by simp; omega),aM (by simp; omega),LW,aC,aM (by simp; omega)]
 simp [condS]
theorem Ju (x:cG) (hs:L8 x.S):qO x=some (Cb x):=by
 unfold qO Cb
 rw [DF x hs,aC]
 simp only [aV,eC,bP,bI]
 cases h:iJ x
 ·rfl
 obtain ⟨h1,h2,h3⟩:=Bl h
 have l1:=Gl h1
 have l2:=CQ x.V
 have l3:=D2 x.Op
 simp only [aZ,if_true]
 rw [IP _ hs,aC]
 unfold BG
 rw [if_pos h1,aM (by simp; omega),show vO=some [[62],[62,61],[60],[60,61],[61,61],[33,61]] from rfl,aC,bC (by omega),gL (by omega) (Ov h2).2,aM (by simp; omega),aM (by simp; omega),I6,aC,aM (by simp; omega)]
 simp [condS]
theorem Fs:∀ (j i d:Nat),i + j=5→d≤9007199254740992→(eV (eA.drop i) d).length≤22 * j
 | 0,i,d,hi,_=>by
  have:i=5:=by omega
  subst this; simp [eA,eV]
 | j + 1,i,d,hi,hd=>by
  obtain ⟨n,k,hu,hdr,hk,_⟩:=An i (by omega)
  rw [hdr]
  unfold eV
  have hq:d / k≤9007199254740992:=Nat.le_trans (Nat.div_le_self d k) hd
  have hm:d % k≤9007199254740992:=Nat.le_trans (Nat.mod_le d k) hd
  have h1:=Fs j (i + 1) (d % k) (by omega) hm
  have h2:=Eu hq
  have hn:n.length≤2:=by
   have:i=0 ∨ i=1 ∨ i=2 ∨ i=3 ∨ i=4:=by omega
   rcases this with rfl | rfl | rfl | rfl | rfl <;> cases hu <;> decide
  rw [List.length_append]
  split
  ·rw [List.length_append]; omega
  ·simp only [List.length_nil]; omega
theorem uF (v:Int):(printD v).length≤110:=by
 unfold printD
 split
 ·rename_i h
  have hv:=m7.1 h
  split
  ·simp
  ·have:=Fs 5 0 v.toNat rfl (by omega)
   rw [List.drop_zero] at this; omega
 ·simp
theorem uY {w:Str} (d:Int) (h:w.length≤10):(optS w d).length≤130:=by
 unfold optS
 have:=uF d
 split
 ·simp only [List.length_cons,List.length_append]; omega
 ·simp
theorem Ee {p:aY} (h:cJ p.1=true∧p.2.length≤64):p.1.length≤64∧(dC p.2).length≤130:=by
 have:=mK h.1
 have:=AF p.2
 omega
theorem My:∀ (ps:List aY) (b:Str),b.length≤10→(∀ p ∈ ps,cJ p.1=true∧p.2.length≤64)→(labM b ps).length≤210 * ps.length
 | [],b,_,_=>by simp [labM]
 | p :: ps,b,hb,h=>by
  unfold labM
  have h1:=Ee (h p (by simp))
  have h2:=My ps [44] (by simp) (fun x hx=>h x (by simp [hx]))
  simp only [List.length_cons,List.length_append]; omega
theorem IE {l:List aY} (h:gZ l=true):l.length≤16∧∀ p ∈ l,cJ p.1=true∧p.2.length≤64:=by
 have:=wD.1 h
 exact ⟨this.1,fun p hp=>⟨this.2.1 p hp,this.2.2.1 p hp⟩⟩
def Cu:Str:=[32,108,97,98,101,108,115,32,123]
theorem I8 {l:List aY} (h:l ≠ []):labS l=labM Cu l ++ [125]:=by
 unfold labS; rw [if_neg h]; rfl
def j4 (r:a6):Str:=if eB r then ruleS r else []
theorem Bk {r:a6} (h:eB r=true):cJ r.Name=true∧iJ r.E=true∧tmB r.For=true∧tmB r.Keep=true∧H0 r.Labels:=by
 simp only [eB,Bool.and_eq_true,Bool.not_eq_true'] at h
 obtain ⟨⟨⟨⟨⟨h1,h2⟩,h3⟩,h4⟩,h5⟩,h6⟩:=h
 exact ⟨h1,h2,h3,h4,h5,h6⟩
theorem SZ {l:List aY} (h:gZ l=true):(labS l).length≤3400:=by
 obtain ⟨h1,h2⟩:=IE h
 by_cases h0:l=[]
 ·subst h0; simp [labS]
 ·rw [I8 h0,List.length_append]
  have:=My l Cu (by decide) h2
  simp only [List.length_singleton]; omega
theorem QH {r:a6} (h:eB r=true):(ruleS r).length≤6000:=by
 obtain ⟨h1,h2,h3,h4,h5⟩:=Bk h
 have l1:=mK h1
 have l2:=DZ h2
 have l3:=uY (w:=kG) r.For (by decide)
 have l4:=uY (w:=jE) r.Keep (by decide)
 have l5:=SZ h5.1
 unfold ruleS
 have:mO.length=4:=rfl
 simp only [List.length_append,List.length_cons,List.length_nil]; omega
theorem Kh (r:a6):t8 r=some (j4 r):=by
 unfold t8 j4
 rw [Es,aC]
 simp only [aV,eC,bP,aO,bI]
 cases h:eB r
 ·rfl
 obtain ⟨h1,h2,h3,h4,h5⟩:=Bk h
 have l1:=mK h1
 have l2:=DZ h2
 have l3:=uY (w:=kG) r.For (by decide)
 have l4:=uY (w:=jE) r.Keep (by decide)
 have d1:=uF r.For
 have d2:=uF r.Keep
 simp only [aZ,if_true]
 rw [aM (by simp; omega),aM (by simp; omega),Ka,aC]
 have hE:Cb r.E=condS r.E:=if_pos h2
 rw [hE,aM (by simp; omega)]
 generalize hA:(([114,117,108,101,32]:Str) ++ r.Name ++ [58,32] ++ condS r.E)=A
 have lA:A.length≤2200:=by rw [← hA]; simp only [List.length_append,List.length_cons,List.length_nil]; omega
 have jn:∀ (B:Str) (w w2:Str) (d:Int),w2=32 :: (w ++ [32])→w2.length≤10→B.length≤3000→(printD d).length≤110→(if 0 < d then aJ vS (fun x9=>[.box [vS r.Name,vS r.E.S.Name,sl aH r.E.S.M,vI r.E.Op,vI r.E.V,vI r.For,vI r.Keep,sl aK r.Labels]]) (oV d) fun x9=>
   gdM (w2.length + x9.length≤9223372036854775807) (gdM (B.length + (w2 ++ x9).length≤9223372036854775807) (aW (B ++ (w2 ++ x9)))) else aW B)=(some (Sum.inl (B ++ optS w d)):Option (Str ⊕ Str)):=by
  intro B w w2 d hw hl hB hd
  unfold optS
  by_cases h0:0 < d
  ·rw [if_pos h0,if_pos h0,L6,aC,aM (by omega),aM (by rw [List.length_append]; omega),hw]
   simp
  ·rw [if_neg h0,if_neg h0]; simp
 refine Dd (jn A kG [32,102,111,114,32] r.For rfl (by decide) (by omega) d1) ?_
 refine Dd (jn (A ++ optS kG r.For) jE [32,107,101,101,112,32] r.Keep rfl (by decide) (by rw [List.length_append]; omega) d2) ?_
 generalize hC:A ++ optS kG r.For ++ optS jE r.Keep=C
 have lC:C.length≤2600:=by rw [← hC]; simp only [List.length_append]; omega
 have hR:ruleS r=C ++ (labS r.Labels ++ [59]):=by
  rw [← hC,← hA]; unfold ruleS mO; simp
 rw [hR]
 obtain ⟨k1,k2⟩:=IE h5.1
 by_cases hL:r.Labels=[]
 ·rw [if_neg (by rw [hL]; decide),aM (by simp; omega),hL]; rfl
 ·have hpos:0 < r.Labels.length:=List.length_pos_iff.2 hL
  rw [if_pos (by omega),aM (by simp; omega),I8 hL]
  refine (fC r.Labels.length (fun i t=>t.length≤2700 + 210 * i) (fun i t=>t ++ labM (if i=0 then [] else [44]) (r.Labels.drop i) ++ [125,59]) ?_ ?_ (by simp; omega)).trans ?_
  ·intro i t hi ht
   right
   obtain ⟨p1,p2⟩:=Ee (k2 _ (dV hi))
   have pv:=(k2 _ (dV hi)).2
   rw [if_pos (by simp only; omega),a8 (bJ hi),dI hi]
   simp only [DX _ (show (nth r.Labels i).Value.length≤100000000 by have:(nth r.Labels i).2.length≤64:=pv; omega),aC]
   simp only [labM]
   rw [bC (show -9223372036854775808≤(i:Int) + 1∧_ by omega),show (i:Int) + 1=((i + 1:Nat):Int) by omega]
   have fin:∀ (b:Str) (y:Str),y=t ++ (b ++ ((nth r.Labels i).1 ++ (61 :: dC (nth r.Labels i).2)))→(if i=0 then [] else [44])=b→b.length≤1→∃ a',(some (Sum.inl (y,((i + 1:Nat):Int))):Option ((Str × Int) ⊕ Str))=some (Sum.inl (a',((i + 1:Nat):Int)))∧a'.length≤2700 + 210 * (i + 1) ∧
     a' ++ labM (if i + 1=0 then [] else [44]) (r.Labels.drop (i + 1)) ++ [125,59]=t ++ ((if i=0 then [] else [44]) ++ ((nth r.Labels i).1 ++ (61 :: (dC (nth r.Labels i).2 ++ labM [44] (r.Labels.drop (i + 1)))))) ++ [125,59]:=by
    intro b y hy hb hbl
    refine ⟨_,rfl,?_,?_⟩
    ·rw [hy]; simp only [List.length_append,List.length_cons]; omega
    ·rw [hy,hb,if_neg (show ¬ i + 1=0 by omega)]; simp
   by_cases h0:i=0
   ·rw [if_neg (by omega),aM (by simp; omega),aM (by simp; omega),aM (by simp; omega)]
    exact fin [] _ (by simp) (if_pos h0) (by simp)
   ·rw [if_pos (by omega),aM (by simp; omega),aM (by simp; omega),aM (by simp; omega),aM (by simp; omega)]
    exact fin [44] _ (by simp) (if_neg h0) (by simp)
  ·intro t ht
   rw [if_neg (by simp only; omega),aM (by simp; omega),aM (by simp; omega)]
   simp [labM]
  ·rcases hl2:r.Labels with _ | ⟨p,ps⟩
   ·exact absurd hl2 hL
   ·simp [labM,Cu]
theorem BN (r:a6) (hs:MB r):oD r=some (j4 r):=by
 unfold oD j4
 rw [DA r hs,aC]
 simp only [aV,eC,bP,aO,bI]
 cases h:eB r
 ·rfl
 obtain ⟨h1,h2,h3,h4,h5⟩:=Bk h
 have l1:=mK h1
 have l2:=DZ h2
 have l3:=uY (w:=kG) r.For (by decide)
 have l4:=uY (w:=jE) r.Keep (by decide)
 have d1:=uF r.For
 have d2:=uF r.Keep
 simp only [aZ,if_true]
 rw [aM (by simp; omega),aM (by simp; omega),Ju _ hs.2.1,aC]
 have hE:Cb r.E=condS r.E:=if_pos h2
 rw [hE,aM (by simp; omega)]
 generalize hA:(([114,117,108,101,32]:Str) ++ r.Name ++ [58,32] ++ condS r.E)=A
 have lA:A.length≤2200:=by rw [← hA]; simp only [List.length_append,List.length_cons,List.length_nil]; omega
 have jn:∀ (B:Str) (w w2:Str) (d:Int),w2=32 :: (w ++ [32])→w2.length≤10→B.length≤3000→(printD d).length≤110→(if 0 < d then gdM (B.length + w2.length≤9223372036854775807) (aJ vS (fun x9=>[.box [vS r.Name,vS r.E.S.Name,sl aH r.E.S.M,vI r.E.Op,vI r.E.V,vI r.For,vI r.Keep,sl aK r.Labels]]) (mF d) fun x9=>
   gdM ((B ++ w2).length + x9.length≤9223372036854775807) (aW (B ++ w2 ++ x9))) else aW B)=(some (Sum.inl (B ++ optS w d)):Option (Str ⊕ Str)):=by
  intro B w w2 d hw hl hB hd
  unfold optS
  by_cases h0:0 < d
  ·rw [if_pos h0,if_pos h0,aM (by omega),Iu,aC,aM (by rw [List.length_append]; omega),hw]
   simp
  ·rw [if_neg h0,if_neg h0]; simp
 refine Dd (jn A kG [32,102,111,114,32] r.For rfl (by decide) (by omega) d1) ?_
 refine Dd (jn (A ++ optS kG r.For) jE [32,107,101,101,112,32] r.Keep rfl (by decide) (by rw [List.length_append]; omega) d2) ?_
 generalize hC:A ++ optS kG r.For ++ optS jE r.Keep=C
 have lC:C.length≤2600:=by rw [← hC]; simp only [List.length_append]; omega
 have hR:ruleS r=C ++ (labS r.Labels ++ [59]):=by
  rw [← hC,← hA]; unfold ruleS mO; simp
 rw [hR]
 obtain ⟨k1,k2⟩:=IE h5.1
 refine (fC r.Labels.length (fun i t=>t.length≤2700 + 210 * i) (fun i t=>t ++ labM (if i=0 then Cu else [44]) (r.Labels.drop i) ++ (if r.Labels=[] then [59] else [125,59])) ?_ ?_ (by omega)).trans ?_
 ·intro i t hi ht
  right
  obtain ⟨p1,p2⟩:=Ee (k2 _ (dV hi))
  have pv:=(k2 _ (dV hi)).2
  rw [if_pos (by simp only; omega),dI hi]
  simp only [a8 (bJ hi),BB _ (show (nth r.Labels i).Value.length≤100000000 by have:(nth r.Labels i).2.length≤64:=pv; omega),aC]
  simp only [labM]
  rw [bC (show -9223372036854775808≤(i:Int) + 1∧_ by omega),show (i:Int) + 1=((i + 1:Nat):Int) by omega]
  have fin:∀ (b:Str) (y:Str),y=t ++ (b ++ ((nth r.Labels i).1 ++ (61 :: dC (nth r.Labels i).2)))→(if i=0 then Cu else [44])=b→b.length≤10→∃ a',(some (Sum.inl (y,((i + 1:Nat):Int))):Option ((Str × Int) ⊕ Str))=some (Sum.inl (a',((i + 1:Nat):Int)))∧a'.length≤2700 + 210 * (i + 1) ∧
    a' ++ labM (if i + 1=0 then Cu else [44]) (r.Labels.drop (i + 1)) ++ (if r.Labels=[] then [59] else [125,59])=t ++ ((if i=0 then Cu else [44]) ++ ((nth r.Labels i).1 ++ (61 :: (dC (nth r.Labels i).2 ++ labM [44] (r.Labels.drop (i + 1)))))) ++ (if r.Labels=[] then [59] else [125,59]):=by
   intro b y hy hb hbl
   refine ⟨_,rfl,?_,?_⟩
   ·rw [hy]; simp only [List.length_append,List.length_cons]; omega
   ·rw [hy,hb,if_neg (show ¬ i + 1=0 by omega)]; simp
  by_cases h0:i=0
  ·rw [if_pos (by omega),aM (by simp; omega),aM (by simp; omega),aM (by simp; omega),aM (by simp; omega)]
   exact fin Cu _ (by simp [Cu]) (if_pos h0) (by decide)
  ·rw [if_neg (by omega),aM (by simp; omega),aM (by simp; omega),aM (by simp; omega),aM (by simp; omega)]
   exact fin [44] _ (by simp) (if_neg h0) (by simp)
 ·intro t ht
  rw [if_neg (by simp only; omega)]
  by_cases hL:r.Labels=[]
  ·rw [if_neg (by rw [hL]; decide),if_pos hL,aM (by simp; omega),hL]; simp [labM]
  ·have hpos:0 < r.Labels.length:=List.length_pos_iff.2 hL
   rw [if_pos (by omega),if_neg hL,aM (by simp; omega),aM (by simp; omega)]
   simp [labM]
 ·by_cases hL:r.Labels=[]
  ·simp [hL,labM,labS]
  ·rw [I8 hL]; simp [hL]
theorem Sx {s:Str}{a:Nat}{l:List aN} (h:Lx s a l):l.length≤s.length∧∀ x ∈ l,x.S.length≤s.length:=by
 induction h with
 | nil=>exact ⟨Nat.le_refl _,fun _ h=>by cases h⟩
 | sp hc h ih=>
  simp only [List.length_cons]
  exact ⟨by omega,fun x hx=>by have:=ih.2 x hx; omega⟩
 | @run w t a l k hk hw h1 h2 h ih=>
  obtain ⟨c,w',rfl,_⟩:=hw
  simp only [List.length_cons,List.length_append]
  refine ⟨by omega,fun x hx=>?_⟩
  rcases List.mem_cons.1 hx with rfl | hx
  ·simp only [List.length_cons]; omega
  ·have:=ih.2 x hx; omega
 | @text v t a l h ih=>
  have hq:v.length + 2≤(dC v).length:=by
   have:=Lu v
   simp only [dC,List.length_cons,List.length_append,List.length_nil]; omega
  simp only [List.length_cons,List.length_append]
  refine ⟨by omega,fun x hx=>?_⟩
  rcases List.mem_cons.1 hx with rfl | hx
  ·simp only; omega
  ·have:=ih.2 x hx; omega
 | @sign w t a l hw h1 h ih=>
  obtain ⟨c,w',rfl,_⟩:=hw
  simp only [List.length_cons,List.length_append]
  refine ⟨by omega,fun x hx=>?_⟩
  rcases List.mem_cons.1 hx with rfl | hx
  ·simp only [List.length_cons]; omega
  ·have:=ih.2 x hx; omega
theorem LX.all {s:Str}{ks:List Kt} (h:LX s ks) (hs:s.length≤60000):∃ l,m4 s=some (l,(s.length:Int),0)∧l.map kv=ks∧l.length≤s.length∧∀ x ∈ l,x.S.length≤s.length:=by
 obtain ⟨l,h1,h2⟩:=h (by omega) 0
 obtain ⟨h3,h4⟩:=Sx h1
 exact ⟨l,GY s (by omega) h1 (by omega),h2,h3,h4⟩
theorem S0 (l:List aN):tks l 0=l.map kv:=rfl
theorem RC (s:cT) (h:s.M.length≤9223372036854775807):∃ b,wU s=some b∧(b=true→s.M.length≤40):=by
 unfold wU
 simp only [aV,aO,bI,iA]
 refine yA (fun x:Int × Int=>0≤x.2∧x.2≤(s.M.length:Int)) (fun x=>(s.M.length - x.2).toNat) (fun b=>b=true→s.M.length≤40) ?_ ⟨by simp,by simp⟩
 rintro ⟨a,j⟩ ⟨h0,h1⟩
 simp only at h0 h1 ⊢
 obtain ⟨i,rfl⟩:=Int.eq_ofNat_of_zero_le h0
 by_cases hi:i < s.M.length
 ·right
  rw [if_pos (by omega),a8 (bJ hi),bC (x:=(i:Int) + 1) (by omega)]
  exact ⟨_,rfl,⟨by simp only; omega,by simp only; omega⟩,by simp only; omega⟩
 ·left
  rw [if_neg (by omega)]
  refine ⟨_,rfl,fun hb=>?_⟩
  simp only [Bool.and_eq_true,decide_eq_true_eq] at hb
  omega
def BdR (r:a6):Prop:=r.Name.length≤9223372036854775807∧r.E.S.Name.length≤9223372036854775807∧r.E.S.M.length≤9223372036854775807∧(∀ m ∈ r.E.S.M,m.Name.length≤9223372036854775807)∧r.Labels.length≤9223372036854775807∧∀ p ∈ r.Labels,p.1.length≤9223372036854775807
theorem X4 (r:a6) (h:BdR r):∃ b,sL r=some b∧(b=true→MB r):=by
 obtain ⟨h1,h2,h3,h4,h5,h6⟩:=h
 unfold sL
 obtain ⟨b,hb,hbm⟩:=RC r.E.S h3
 rw [hb,K9 _ h5]
 simp only [aV,aC,aO,bI]
 split
 ·cases b
  ·exact ⟨_,rfl,fun h=>by cases h⟩
  ·refine ⟨_,rfl,fun h=>⟨h1,⟨h2,h3,h4⟩,?_,h6⟩⟩
   have:=R6 h; omega
 ·exact ⟨_,rfl,fun h=>by cases h⟩
theorem MC {r:a6} (h:eB r=true):∃ l,m4 (j4 r)=some (l,((ruleS r).length:Int),0)∧l.map kv=H1 r∧l.length≤6000∧∀ x ∈ l,x.S.length≤6000:=by
 have hlen:=QH h
 have hx:=LX.ruleS h LX.nil
 rw [List.append_nil,List.append_nil] at hx
 obtain ⟨l,h1,h2,h3,h4⟩:=hx.all (by omega)
 refine ⟨l,?_,h2,by omega,fun x hx=>by have:=h4 x hx; omega⟩
 unfold j4; rw [if_pos h]; exact h1
theorem PA {r:a6} (h:eB r=false):j4 r=[]:=by unfold j4; rw [h]; rfl
theorem wE {r:a6} (h:eB r=true):j4 r=ruleS r:=by unfold j4; rw [if_pos h]
theorem all_nil:m4 []=some ([],0,0):=GY [] (by simp) (Lx.nil 0) (by simp)
theorem Rj {a b:a6} (ha:eB a=true) (hb:eB b=true) (h:ruleS a=ruleS b):a=b:=by
 obtain ⟨l,h1,h2,_⟩:=MC ha
 obtain ⟨m,g1,g2,_⟩:=MC hb
 rw [wE ha,h] at h1
 rw [wE hb,h1] at g1
 cases g1
 rw [h2] at g2
 have e1:=GK ha []
 have e2:=GK hb []
 rw [g2,e2] at e1
 cases e1; rfl
theorem S1 (r:a6):ruleS r ≠ []:=by unfold ruleS mO; simp
theorem Pt {a b:a6} (ha:eB a=true):decide (j4 b=j4 a)=decide (b=a):=by
 rw [decide_eq_decide]
 constructor
 ·intro h
  cases hb:eB b
  ·rw [PA hb,wE ha] at h
   exact absurd h.symm (S1 a)
  ·rw [wE hb,wE ha] at h
   exact Rj hb ha h
 ·rintro rfl; rfl
end Go.Proofs.YthgenmkengbmmaaGreatDoor.AM
namespace Go.Proofs.YthgenmkengbmmaaGreatDoor.AM
open Go
def xB (f:List aI) (n:Str):Bool:=f.any fun g=>decide (g.Name=n)
def rU (l:List a6) (n:Str):Bool:=l.any fun r=>decide (r.Name=n)
def mE {α:Type} (p:List α→α→Bool):List α→List α→Bool
 | _,[]=>true
 | a,x :: l=>p a x && mE p (a ++ [x]) l
def mR (l:List a6):Bool:=mE (fun a r=>eB r && !rU a r.Name) [] l
def fO (g:aI):Bool:=cJ g.Name && tmB g.Interval && !decide (g.Interval=0) && !decide (g.Offset < 0) && !decide (g.Interval≤g.Offset) && decide (g.Rules.length≤16) && mR g.Rules
def Bx (f:List aI):Bool:=mE (fun a g=>fO g && !xB a g.Name) [] f
def lJ (f:List aI):Bool:=decide (f.length≤16) && Bx f
theorem E2 {α:Type} [Inhabited α] (p:List α→α→Bool) {l:List α}{i:Nat} (h:i < l.length):mE p (l.take i) (l.drop i)=(p (l.take i) (nth l i) && mE p (l.take (i + 1)) (l.drop (i + 1))):=by
 have e:=bJ h
 rw [List.drop_eq_getElem_cons h]
 have e2:l[i]=nth l i:=by rw [List.getElem?_eq_getElem h] at e; exact Option.some.inj e
 rw [e2]
 have e3:l.take (i + 1)=l.take i ++ [nth l i]:=by rw [List.take_succ,e]; rfl
 rw [e3]; rfl
theorem G5 {α:Type} [Inhabited α] (p:α→Bool) {l:List α}{i:Nat} (h:i < l.length):(l.drop i).any p=(p (nth l i) || (l.drop (i + 1)).any p):=by
 have e:=bJ h
 rw [List.drop_eq_getElem_cons h]
 have e2:l[i]=nth l i:=by rw [List.getElem?_eq_getElem h] at e; exact Option.some.inj e
 rw [e2,List.any_cons]
theorem Aq (l:List a6) (n:Str) (h:l.length≤9223372036854775807):jW l n=some (rU l n):=by
 unfold jW
 simp only [aV]
 refine (dA l.length (fun i=>(l.drop i).any fun r=>decide (r.Name=n)) ?_ ?_).trans (by rfl)
 ·intro i hi
  simp only [aO,a8 (bJ hi)]
  rw [if_pos (by omega),G5 _ hi,bC (by omega)]
  by_cases hn:(nth l i).Name=n
  ·left; simp [hn]
  ·right; simp [hn]
 ·simp only [aO]
  rw [if_neg (by omega)]
  simp
theorem zP (l:List aI) (n:Str) (h:l.length≤9223372036854775807):kF l n=some (xB l n):=by
 unfold kF
 simp only [aV]
 refine (dA l.length (fun i=>(l.drop i).any fun r=>decide (r.Name=n)) ?_ ?_).trans (by rfl)
 ·intro i hi
  simp only [aO,a8 (bJ hi)]
  rw [if_pos (by omega),G5 _ hi,bC (by omega)]
  by_cases hn:(nth l i).Name=n
  ·left; simp [hn]
  ·right; simp [hn]
 ·simp only [aO]
  rw [if_neg (by omega)]
  simp
theorem Mc (g:aI):wH g=some (fO g):=by
 unfold wH fO
 simp only [jA,vA,aC,aV,bI,bP,eC]
 cases cJ g.Name
 ·rfl
 cases tmB g.Interval
 ·rfl
 simp only [aZ,aO,Bool.true_and]
 by_cases h1:g.Interval=0
 ·rw [if_pos h1,decide_eq_true h1]; rfl
 rw [if_neg h1,decide_eq_false h1]
 by_cases h2:g.Offset < 0
 ·rw [if_pos h2,decide_eq_true h2]; rfl
 rw [if_neg h2,decide_eq_false h2]
 by_cases h3:g.Interval≤g.Offset
 ·rw [if_pos h3,decide_eq_true h3]; rfl
 rw [if_neg h3,decide_eq_false h3]
 by_cases h4:g.Rules.length≤16
 ·rw [if_neg (by omega),decide_eq_true h4]
  refine (dA g.Rules.length (fun i=>mE (fun a r=>eB r && !rU a r.Name) (g.Rules.take i) (g.Rules.drop i)) ?_ ?_).trans (by simp [mR])
  ·intro i hi
   simp only [a8 (bJ hi),Es,aC]
   rw [if_pos (by omega),E2 _ hi,aM (by omega),bC (by omega),Int.toNat_natCast,Int.toNat_zero,List.drop_zero,Aq _ _ (by rw [List.length_take]; omega),aC]
   cases eB (nth g.Rules i)
   ·left; rfl
   cases rU (g.Rules.take i) (nth g.Rules i).Name
   ·right; simp
   ·left; rfl
  ·rw [if_neg (by omega)]
   simp [mE]
 ·rw [if_pos (by omega),decide_eq_false h4]; rfl
theorem sR (f:List aI):nB f=some (lJ f):=by
 unfold nB lJ
 simp only [aV,bI,bP,eC,aO]
 by_cases h4:f.length≤16
 ·rw [if_neg (by omega),decide_eq_true h4]
  refine (dA f.length (fun i=>mE (fun a g=>fO g && !xB a g.Name) (f.take i) (f.drop i)) ?_ ?_).trans (by simp [Bx])
  ·intro i hi
   simp only [a8 (bJ hi),Mc,aC]
   rw [if_pos (by omega),E2 _ hi,aM (by omega),bC (by omega),Int.toNat_natCast,Int.toNat_zero,List.drop_zero,zP _ _ (by rw [List.length_take]; omega),aC]
   cases fO (nth f i)
   ·left; rfl
   cases xB (f.take i) (nth f i).Name
   ·right; simp
   ·left; rfl
  ·rw [if_neg (by omega)]
   simp [mE]
 ·rw [if_pos (by omega),decide_eq_false h4]; rfl
def BdF (f:List aI):Prop:=f.length≤9223372036854775807∧∀ g ∈ f,g.Name.length≤9223372036854775807∧g.Rules.length≤9223372036854775807∧∀ r ∈ g.Rules,BdR r
def P5 (g:aI):Prop:=g.Name.length≤200∧g.Rules.length≤20∧∀ r ∈ g.Rules,MB r
def zL (f:List aI):Prop:=f.length≤20∧∀ g ∈ f,P5 g
theorem XC (f:List aI) (h:BdF f):∃ b,fW f=some b∧(b=true→zL f):=by
 obtain ⟨h1,h2⟩:=h
 unfold fW
 simp only [aV,aO,bP,bI]
 refine yA (fun x:Int=>(0≤x∧x≤(f.length:Int))∧∀ j,j < x.toNat→P5 (nth f j)) (fun x=>(f.length - x).toNat) (fun b=>b=true→zL f) ?_ ⟨⟨by simp,by simp⟩,fun j hj=>by simp at hj⟩
 rintro x ⟨⟨h0,hl⟩,ha⟩
 obtain ⟨i,rfl⟩:=Int.eq_ofNat_of_zero_le h0
 by_cases hi:i < f.length
 ·rw [if_pos (by omega)]
  obtain ⟨g1,g2,g3⟩:=h2 _ (dV hi)
  generalize hg:nth f i=g at *
  have key:=yA (ph:=fun (x4:Int)=>[(0,sl aD f),(3,vI (i:Int)),(4,vI x4)]) (ob:=fun (_:Int)=>([]:List Obj)) (step:=fun (x4:Int)=>bM f (i:Int) fun x5=>if x4 < (x5.Rules.length:Int) then bM x5.Rules x4 fun x8=>aJ vB (fun x9=>[]) (sL x8) fun x9=>aF x9 (aW (wI (x4 + 1))) (aQ (aQ (some false))) else aQ (if (20:Int) < (x5.Rules.length:Int) then aQ (some false) else if (200:Int) < (x5.Name.length:Int) then aQ (some false) else aW (wI ((i:Int) + 1))))
   (fun x:Int=>(0≤x∧x≤(g.Rules.length:Int))∧∀ j,j < x.toNat→MB (nth g.Rules j)) (fun x=>(g.Rules.length - x).toNat) (fun r:Int ⊕ Bool=>r=.inr false ∨ (r=.inl ((i + 1:Nat):Int)∧P5 g)) ?_ (s:=0) ⟨⟨by simp,by simp⟩,fun j hj=>by simp at hj⟩
  ·obtain ⟨r,e,hr⟩:=key
   rcases hr with rfl | ⟨rfl,hr⟩
   ·left; exact ⟨false,e,fun h=>by cases h⟩
   ·right
    refine ⟨_,e,⟨⟨by omega,by omega⟩,fun j hj=>?_⟩,by omega⟩
    rcases Nat.lt_or_ge j i with hj2 | hj2
    ·exact ha j (by omega)
    ·have:j=i:=by omega
     subst this; rw [hg]; exact hr
  ·rintro y ⟨⟨k0,kl⟩,ka⟩
   obtain ⟨k,rfl⟩:=Int.eq_ofNat_of_zero_le k0
   simp only [a8 (bJ hi),hg]
   by_cases hk:k < g.Rules.length
   ·rw [if_pos (by omega),a8 (bJ hk)]
    obtain ⟨b,hb,hs⟩:=X4 _ (g3 _ (dV hk))
    rw [hb,aC]
    cases b
    ·left; exact ⟨_,rfl,.inl rfl⟩
    ·right
     rw [aZ,bC (by omega),Gj]
     refine ⟨_,rfl,⟨⟨by omega,by omega⟩,fun j hj=>?_⟩,by omega⟩
     rcases Nat.lt_or_ge j k with hj2 | hj2
     ·exact ka j (by omega)
     ·have:j=k:=by omega
      subst this; exact hs rfl
   ·left
    rw [if_neg (by omega)]
    by_cases q1:(20:Int) < (g.Rules.length:Int)
    ·rw [if_pos q1]; exact ⟨_,rfl,.inl rfl⟩
    rw [if_neg q1]
    by_cases q2:(200:Int) < (g.Name.length:Int)
    ·rw [if_pos q2]; exact ⟨_,rfl,.inl rfl⟩
    rw [if_neg q2,bC (by omega)]
    refine ⟨_,rfl,.inr ⟨by simp,by omega,by omega,fun r hr=>?_⟩⟩
    obtain ⟨j,hj,e⟩:=List.getElem_of_mem hr
    have:=ka j (by omega)
    rwa [show nth g.Rules j=r from by have:=bJ hj; rw [List.getElem?_eq_getElem hj,e] at this; exact (Option.some.inj this).symm] at this
 ·left
  rw [if_neg (by omega)]
  refine ⟨_,rfl,fun hb=>⟨by simp only [decide_eq_true_eq] at hb; omega,fun g hg=>?_⟩⟩
  obtain ⟨j,hj,e⟩:=List.getElem_of_mem hg
  have:=ha j (by omega)
  rwa [show nth f j=g from by have:=bJ hj; rw [List.getElem?_eq_getElem hj,e] at this; exact (Option.some.inj this).symm] at this
theorem Jt (l:List a6) (n:Str) (h:l.length≤9223372036854775807):rA l n=some (rU l n):=by
 unfold rA
 simp only [aV]
 refine (dA l.length (fun i=>(l.drop i).any fun r=>decide (r.Name=n)) ?_ ?_).trans (by rfl)
 ·intro i hi
  simp only [aO,a8 (bJ hi)]
  rw [if_pos (by omega),G5 _ hi,bC (by omega)]
  by_cases hn:(nth l i).Name=n
  ·left; simp [hn]
  ·right; simp [hn]
 ·simp only [aO]
  rw [if_neg (by omega)]
  simp
theorem L2 (l:List aI) (n:Str) (h:l.length≤9223372036854775807):wJ l n=some (xB l n):=by
 unfold wJ
 simp only [aV]
 refine (dA l.length (fun i=>(l.drop i).any fun r=>decide (r.Name=n)) ?_ ?_).trans (by rfl)
 ·intro i hi
  simp only [aO,a8 (bJ hi)]
  rw [if_pos (by omega),G5 _ hi,bC (by omega)]
  by_cases hn:(nth l i).Name=n
  ·left; simp [hn]
  ·right; simp [hn]
 ·simp only [aO]
  rw [if_neg (by omega)]
  simp
def GX (g:aI):Bool:=cJ g.Name && (tmB g.Interval && (decide (0 < g.Interval) && (decide (0≤g.Offset) && (decide (g.Offset < g.Interval) && decide (g.Rules.length≤16)))))
theorem N3 (g:aI):fO g=(mR g.Rules && GX g):=by
 unfold fO GX
 cases cJ g.Name
 ·simp
 cases ht:tmB g.Interval
 ·simp
 have h0:0≤g.Interval:=by unfold tmB at ht; simp only [Bool.and_eq_true,decide_eq_true_eq] at ht; exact ht.1
 have e1:(!decide (g.Interval=0))=decide (0 < g.Interval):=by rw [← decide_not,decide_eq_decide]; omega
 have e2:(!decide (g.Offset < 0))=decide (0≤g.Offset):=by rw [← decide_not,decide_eq_decide]; omega
 have e3:(!decide (g.Interval≤g.Offset))=decide (g.Offset < g.Interval):=by rw [← decide_not,decide_eq_decide]; omega
 rw [e1,e2,e3]
 cases mR g.Rules <;> simp [Bool.and_assoc]
theorem Ix (g:aI) (h:P5 g):q9 g=some (fO g):=by
 obtain ⟨h1,h2,h3⟩:=h
 rw [N3]
 unfold q9
 simp only [aV,aO,bP,bI,eC]
 refine (dA g.Rules.length (fun i=>mE (fun a r=>eB r && !rU a r.Name) (g.Rules.take i) (g.Rules.drop i) && GX g) ?_ ?_).trans (by simp [mR])
 ·intro i hi
  simp only [a8 (bJ hi),DA _ (h3 _ (dV hi)),aC]
  rw [if_pos (by omega),E2 _ hi,aM (by omega),bC (by omega),Int.toNat_natCast,Int.toNat_zero,List.drop_zero,Jt _ _ (by rw [List.length_take]; omega),aC]
  cases eB (nth g.Rules i)
  ·left; rfl
  cases rU (g.Rules.take i) (nth g.Rules i).Name
  ·right; simp
  ·left; rfl
 ·rw [if_neg (by omega),oB _ (by omega),aC,wZ,aC]
  unfold GX
  simp only [List.take_length,List.drop_length,mE,Bool.true_and]
  cases cJ g.Name
  ·rfl
  cases tmB g.Interval
  ·rfl
  by_cases q1:0 < g.Interval
  ·by_cases q2:0≤g.Offset
   ·by_cases q3:g.Offset < g.Interval
    ·simp [q1,q2,q3]; omega
    ·simp [q1,q2,q3]
   ·simp [q1,q2]
  ·simp [q1]
theorem KE (f:List aI) (h:zL f):s4 f=some (lJ f):=by
 obtain ⟨h1,h2⟩:=h
 unfold s4 lJ
 simp only [aV,aO,bP,bI,eC]
 refine (dA f.length (fun i=>decide (f.length≤16) && mE (fun a g=>fO g && !xB a g.Name) (f.take i) (f.drop i)) ?_ ?_).trans (by simp [Bx])
 ·intro i hi
  simp only [a8 (bJ hi),Ix _ (h2 _ (dV hi)),aC]
  rw [if_pos (by omega),E2 _ hi,aM (by omega),bC (by omega),Int.toNat_natCast,Int.toNat_zero,List.drop_zero,L2 _ _ (by rw [List.length_take]; omega),aC]
  cases fO (nth f i)
  ·left; simp
  cases xB (f.take i) (nth f i).Name
  ·right; simp
  ·left; simp
 ·rw [if_neg (by omega)]
  simp [mE]; omega
end Go.Proofs.YthgenmkengbmmaaGreatDoor.AM
namespace Go.Proofs.YthgenmkengbmmaaGreatDoor.AM

open Go
end Go.Proofs.YthgenmkengbmmaaGreatDoor.AM
namespace Go.Proofs.YthgenmkengbmmaaGreatDoor.AM
open Go
def LL:Str:=[103,114,111,117,112]
def MR:Str:=[101,118,101,114,121]
def R1:Str:=[111,102,102,115,101,116]
theorem Gc {α:Type}{p:List α→α→Bool}:∀ {l a:List α},mE p a l=true→∀ x ∈ l,∃ b,p b x=true
 | [],_,_,x,hx=>by cases hx
 | y :: l,a,h,x,hx=>by
  simp only [mE,Bool.and_eq_true] at h
  rcases List.mem_cons.1 hx with rfl | hx
  ·exact ⟨_,h.1⟩
  ·exact Gc h.2 x hx
theorem jY {g:aI} (h:fO g=true):cJ g.Name=true∧tmB g.Interval=true∧g.Interval ≠ 0∧0≤g.Offset∧g.Offset < g.Interval∧g.Rules.length≤16∧mR g.Rules=true∧∀ r ∈ g.Rules,eB r=true:=by
 unfold fO at h
 simp only [Bool.and_eq_true,Bool.not_eq_true',decide_eq_true_eq,decide_eq_false_iff_not] at h
 obtain ⟨⟨⟨⟨⟨⟨h1,h2⟩,h3⟩,h4⟩,h5⟩,h6⟩,h7⟩:=h
 refine ⟨h1,h2,h3,by omega,by omega,h6,h7,fun r hr=>?_⟩
 obtain ⟨b,hb⟩:=Gc h7 r hr
 simp only [Bool.and_eq_true] at hb
 exact hb.1
theorem oH {f:List aI} (h:lJ f=true):f.length≤16∧Bx f=true∧∀ g ∈ f,fO g=true:=by
 unfold lJ at h
 simp only [Bool.and_eq_true,decide_eq_true_eq] at h
 refine ⟨h.1,h.2,fun g hg=>?_⟩
 obtain ⟨b,hb⟩:=Gc h.2 g hg
 simp only [Bool.and_eq_true] at hb
 exact hb.1
theorem Ci (a b:Str):jI (a ++ b)=jI a ++ jI b:=by simp [jI]
def sk:Bool→Str→Str
 | _,[]=>[]
 | true,c :: t=>if c=10 then sk false t else sk true t
 | false,c :: t=>if isW c then sk false t else if c=35 then sk true t else c :: t
def nlL (t:Str):Nat:=(t.takeWhile fun c=>!decide (c=10)).length
theorem Gr (c:UInt8) (t:Str):nlL (c :: t)=if c=10 then 0 else nlL t + 1:=by
 unfold nlL
 rw [List.takeWhile_cons]
 by_cases h:c=10
 ·simp [h]
 ·simp [h]
theorem Ou:∀ t:Str,sk true t=sk false (t.drop (nlL t))
 | []=>rfl
 | c :: t=>by
  rw [Gr]
  by_cases h:c=10
  ·subst h; simp [sk,isW]
  ·rw [if_neg h,List.drop_succ_cons,← Ou t]; simp [sk,h]
theorem BC:∀ (b:Bool) (t:Str),∃ p,t=p ++ sk b t
 | _,[]=>⟨[],by simp [sk]⟩
 | true,c :: t=>by
  obtain ⟨p,hp⟩:=BC false t
  obtain ⟨q,hq⟩:=BC true t
  simp only [sk]
  split
  ·exact ⟨c :: p,by rw [List.cons_append,← hp]⟩
  ·exact ⟨c :: q,by rw [List.cons_append,← hq]⟩
 | false,c :: t=>by
  obtain ⟨p,hp⟩:=BC false t
  obtain ⟨q,hq⟩:=BC true t
  simp only [sk]
  split
  ·exact ⟨c :: p,by rw [List.cons_append,← hp]⟩
  ·split
   ·exact ⟨c :: q,by rw [List.cons_append,← hq]⟩
   ·exact ⟨[],rfl⟩
theorem EF (b:Bool) (t:Str):(sk b t).length≤t.length:=by
 obtain ⟨p,hp⟩:=BC b t
 have:=congrArg List.length hp
 rw [List.length_append] at this; omega
theorem IM (b:Bool) (t:Str):t.drop (t.length - (sk b t).length)=sk b t:=by
 obtain ⟨p,hp⟩:=BC b t
 have h1:=congrArg List.length hp
 rw [List.length_append] at h1
 rw [h1,Nat.add_sub_cancel]
 generalize sk b t=u at *
 subst hp
 rw [List.drop_left]
def Pc (u:Str):Prop:=∀ c r,u=c :: r→isW c=false∧c ≠ 35
theorem uL:∀ (b:Bool) (t:Str),Pc (sk b t)
 | _,[]=>fun c r h=>by cases h
 | true,d :: t=>by
  simp only [sk]; split
  ·exact uL false t
  ·exact uL true t
 | false,d :: t=>by
  simp only [sk]; split
  ·exact uL false t
  ·split
   ·exact uL true t
   ·rename_i h1 h2
    intro c r h; cases h
    exact ⟨by simpa using h1,h2⟩
theorem Th {u:Str} (h:Pc u):sk false u=u:=by
 rcases u with _ | ⟨c,r⟩
 ·rfl
 ·obtain ⟨h1,h2⟩:=h c r rfl
  simp [sk,h1,h2]
theorem Rd {s:Str}{a:Nat} (h:s[a]?=some 35) (hs:s.length≤100000000):dX s (a:Int)=dX s ((a + nlL (s.drop a):Nat):Int):=by
 have ha:=(List.getElem?_eq_some_iff.1 h).1
 refine xV ?_
 simp only [aV,aO,bP]
 rw [if_pos (by omega),a8 h,zT,aC,show isW 35=false from by decide,bA,if_pos (by decide)]
 refine (dZ (fun x:Int=>(a:Int)≤x∧x≤s.length) (fun x=>s.length - x.toNat) (fun x=>Sum.inl (x + (nlL (s.drop x.toNat):Int))) ?_ ⟨by omega,by omega⟩).trans (by simp)
 rintro x ⟨h0,h1⟩
 obtain ⟨n,rfl⟩:=Int.eq_ofNat_of_zero_le (show 0≤x by omega)
 simp only [Int.toNat_natCast]
 by_cases hl:n < s.length
 ·have hk:=gW (nth s n) 10 (by decide)
  simp only [Int.cast_ofNat_Int] at hk
  rw [if_pos (by omega),a8 (bJ hl),dI hl,Gr]
  by_cases h10:nth s n=10
  ·left; rw [if_pos (hk.2 h10),if_pos h10]; simp
  ·right; rw [if_neg (fun e=>h10 (hk.1 e)),if_neg h10,bC (by omega)]
   refine ⟨_,rfl,⟨by omega,by omega⟩,by omega,?_⟩
   rw [show ((n:Int) + 1).toNat=n + 1 by omega]; congr 1; omega
 ·left; rw [if_neg (by omega),List.drop_eq_nil_of_le (by omega)]; simp [nlL]
theorem TJ (s:Str) (hs:s.length≤100000000):∀ (n a:Nat),s.length - a=n→a≤s.length→dX s (a:Int)=some ((s.length - (sk false (s.drop a)).length:Nat):Int):=by
 intro n
 induction n using Nat.strongRecOn with
 | ind n ih=>
  intro a hn ha
  rcases Nat.lt_or_ge a s.length with hl | hl
  ·have hg:=bJ hl
   cases hw:isW (nth s a)
   ·by_cases h35:nth s a=35
    ·rw [h35] at hg
     have hd:s.drop a=35 :: s.drop (a + 1):=by rw [dI hl,h35]
     have hp:1≤nlL (s.drop a):=by rw [hd,Gr,if_neg (by decide)]; omega
     have hq:nlL (s.drop a)≤s.length - a:=by
      have:=(List.takeWhile_sublist (l:=s.drop a) fun c=>!decide (c=10)).length_le
      rw [List.length_drop] at this
      exact this
     rw [Rd hg hs,ih _ (show s.length - (a + nlL (s.drop a)) < n by omega) _ rfl (by omega),← List.drop_drop,← Ou,hd]
     simp [sk,isW]
    ·rw [AL hg hw h35,dI hl]
     simp only [sk,hw,h35,if_false,Bool.false_eq_true]
     rw [← dI hl,List.length_drop]; congr 1; omega
   ·rw [HN hg hs hw,ih _ (show s.length - (a + 1) < n by omega) _ rfl (by omega),dI hl]
    simp [sk,hw]
  ·rw [Mb hl,List.drop_eq_nil_of_le hl]
   simp only [sk,List.length_nil]; congr 1; omega
def sgA (c:UInt8):Bool:=decide (0≤Lib.indexByte [61,33,60,62] c)
def sgB (c:UInt8):Bool:=decide (0≤Lib.indexByte [123,125,40,41,44,58,59,61,60,62] c)
def fK:Str→Int × Int
 | []=>(0,0)
 | c :: r=>if isL c then (1,0) else if isD c then (2,0) else if c=45∧(r.head?.map isD)=some true then (2,0) else if c=34 then (3,0)
   else if sgA c=true∧r.head?=some 61 then (4,2) else if sgB c then (4,1) else (0,0)
theorem Q0 (c:UInt8) (r:Str):dD (c :: r)=some (fK (c :: r)):=by
 have u1:=gW c 45 (by decide)
 have u2:=gW c 34 (by decide)
 simp only [Int.cast_ofNat_Int] at u1 u2
 unfold dD fK
 rw [gL (x:=c) (by omega) rfl,g6,aC]
 cases h1:isL c
 ·rw [bA,gR,aC]
  cases h2:isD c
  ·have hcc:(c.toNat:Int).toNat.toUInt8=c:=by simp
   have k1:Lib.indexByte (bs [61,33,60,62]).data.toList c=Lib.indexByte [61,33,60,62] c:=rfl
   have k2:Lib.indexByte (bs [123,125,40,41,44,58,59,61,60,62]).data.toList c=Lib.indexByte [123,125,40,41,44,58,59,61,60,62] c:=rfl
   simp only [bA,aV,strings_IndexByte,hcc,aC,k1,k2,h1,h2,Bool.false_eq_true,if_false,bI]
   rw [show decide ((c.toNat:Int)=45)=decide (c=45) from by rw [decide_eq_decide]; exact u1,show decide ((c.toNat:Int)=34)=decide (c=34) from by rw [decide_eq_decide]; exact u2]
   rw [show decide ((0:Int)≤Lib.indexByte [61,33,60,62] c)=sgA c from rfl,show decide ((0:Int)≤Lib.indexByte [123,125,40,41,44,58,59,61,60,62] c)=sgB c from rfl]
   rcases r with _ | ⟨d,r⟩
   ·have hl:decide ((1:Int) < (([c]:Str).length:Int))=false:=by simp
    rw [hl]
    by_cases h3:c=45
    ·subst h3; decide
    ·by_cases h4:c=34
     ·subst h4; decide
     ·simp only [h3,h4,decide_false,cond_false,bA,false_and,if_false,List.head?_nil,reduceCtorEq,and_false]
      cases sgA c <;> cases sgB c <;> simp
   ·have hl:decide ((1:Int) < ((c :: d :: r:Str).length:Int))=true:=by rw [decide_eq_true_eq]; simp; omega
    have u3:=gW d 61 (by decide)
    simp only [Int.cast_ofNat_Int] at u3
    have hi:∀ {β:Type} (m:UInt8→Option β),bM (c :: d :: r) (1:Int) m=m d:=fun m=>gL (by omega) rfl m
    simp only [hl,hi,gR,aC,List.head?_cons,Option.map_some,Option.some.injEq]
    rw [show decide ((d.toNat:Int)=61)=decide (d=61) from by rw [decide_eq_decide]; exact u3]
    by_cases h3:c=45
    ·subst h3
     rw [show sgA 45=false from by decide,show sgB 45=false from by decide]
     cases isD d <;> rfl
    ·by_cases h4:c=34
     ·subst h4; rfl
     ·simp only [h3,h4,decide_false,cond_false,bA,false_and,if_false]
      by_cases h5:d=61
      ·subst h5; cases sgA c <;> cases sgB c <;> simp <;> rfl
      ·simp only [h5,decide_false,bA,and_false,if_false]
       cases sgA c <;> cases sgB c <;> simp
  ·simp [h1,h2]
 ·simp [h1]
def iW:Str→Nat→Str→Str × Nat × Int
 | _,_,[]=>([],0,12)
 | acc,i,c :: r=>if c=34 then (acc,i + 1,0) else if c=10 then ([],0,12) else if c=92 then (match r with
   | []=>([],0,12)
   | d :: r2=>if d=92 then iW (acc ++ [d]) (i + 2) r2 else if d=34 then iW (acc ++ [d]) (i + 2) r2 else if d=110 then iW (acc ++ [10]) (i + 2) r2 else ([],i,1))
  else iW (acc ++ [c]) (i + 1) r
theorem JQ (acc:Str) (i:Nat) (c:UInt8) (r:Str):iW acc i (c :: r)=if c=34 then (acc,i + 1,0) else if c=10 then ([],0,12) else if c=92 then (match r with
   | []=>([],0,12)
   | d :: r2=>if d=92 then iW (acc ++ [d]) (i + 2) r2 else if d=34 then iW (acc ++ [d]) (i + 2) r2 else if d=110 then iW (acc ++ [10]) (i + 2) r2 else ([],i,1))
  else iW (acc ++ [c]) (i + 1) r:=by cases r <;> rfl
def cv3 (r:Str × Nat × Int):Str × Int × Int:=(r.1,(r.2.1:Int),r.2.2)
theorem Cl (c:UInt8):[((c.toNat:Nat):Int)]=jI [c]:=rfl
theorem LP (t:Str) (ht:t.length≤100000000):nW t=some (cv3 (iW [] 1 t.tail)):=by
 unfold nW
 simp only [aV,eU,sC,aO,bP]
 refine (dZ (fun x:List Int × Int=>∃ (n:Nat) (acc:Str),x.1=jI acc∧x.2=n∧1≤n∧n≤t.length + 1∧acc.length≤n) (fun x=>t.length + 2 - x.2.toNat) (fun x=>cv3 (iW (eO x.1) x.2.toNat (t.drop x.2.toNat))) ?_ ⟨1,[],rfl,rfl,by omega,by omega,by simp⟩).trans (by simp [eO])
 rintro ⟨x1,x2⟩ ⟨n,acc,h1,h2,h3,h4,h5⟩
 simp only at h1 h2
 subst h1 h2
 simp only [Int.toNat_natCast,CL]
 by_cases hl:n < t.length
 ·generalize hc:nth t n=c
  have hg:=bJ hl
  rw [hc] at hg
  have v1:=gW c 34 (by decide)
  have v2:=gW c 10 (by decide)
  have v3:=gW c 92 (by decide)
  simp only [Int.cast_ofNat_Int] at v1 v2 v3
  have ol:=NL acc
  rw [if_pos (by omega),a8 hg,dI hl,hc]
  rw [JQ]
  by_cases c1:c=34
  ·left; rw [if_pos (v1.2 c1),if_pos c1,bC (by omega)]; rfl
  rw [if_neg (fun e=>c1 (v1.1 e)),if_neg c1]
  by_cases c2:c=10
  ·left; rw [if_pos (v2.2 c2),if_pos c2]; rfl
  rw [if_neg (fun e=>c2 (v2.1 e)),if_neg c2]
  by_cases c3:c=92
  ·rw [if_pos (v3.2 c3),if_pos c3,bC (by omega)]
   by_cases hl2:n + 1 < t.length
   ·generalize hd:nth t (n + 1)=d
    have hg2:=bJ hl2
    rw [hd] at hg2
    have w1:=gW d 92 (by decide)
    have w2:=gW d 34 (by decide)
    have w3:=gW d 110 (by decide)
    simp only [Int.cast_ofNat_Int] at w1 w2 w3
    have hi:∀ {β:Type} (m:UInt8→Option β),bM t ((n:Int) + 1) m=m d:=fun m=>by
     rw [show (n:Int) + 1=((n + 1:Nat):Int) by omega]; exact a8 hg2 m
    rw [if_neg (by omega),hi,dI hl2,hd]
    simp only
    have fin:∀ (e:UInt8),∃ s':List Int × Int,(aW (jI acc ++ [((e.toNat:Nat):Int)],((n:Int) + 1 + 1)):Option ((List Int × Int) ⊕ (Str × Int × Int)))=some (Sum.inl s')∧(∃ (m:Nat) (ac:Str),s'.1=jI ac∧s'.2=m∧1≤m∧m≤t.length + 1∧ac.length≤m)∧t.length + 2 - s'.2.toNat < t.length + 2 - n ∧
      cv3 (iW (eO s'.1) s'.2.toNat (t.drop s'.2.toNat))=cv3 (iW (acc ++ [e]) (n + 2) (t.drop (n + 1 + 1))):=fun e=>by
     refine ⟨_,rfl,⟨n + 2,acc ++ [e],by rw [Cl,← Ci],by simp only; omega,by omega,by omega,by simp; omega⟩,by simp only; omega,?_⟩
     simp only
     rw [Cl,← Ci,CL,show ((n:Int) + 1 + 1).toNat=n + 2 by omega]
    by_cases d1:d=92
    ·right; rw [if_pos (w1.2 d1),if_pos d1,hi,aM (by simp; omega),bC (by omega)]; exact fin d
    rw [if_neg (fun e=>d1 (w1.1 e)),if_neg d1,hi]
    by_cases d2:d=34
    ·right; rw [if_pos (w2.2 d2),if_pos d2,hi,aM (by simp; omega),bC (by omega)]; exact fin d
    rw [if_neg (fun e=>d2 (w2.1 e)),if_neg d2,hi]
    by_cases d3:d=110
    ·right; rw [if_pos (w3.2 d3),if_pos d3,aM (by simp; omega),bC (by omega)]; exact fin 10
    ·left; rw [if_neg (fun e=>d3 (w3.1 e)),if_neg d3]; rfl
   ·left; rw [if_pos (by omega),List.drop_eq_nil_of_le (by omega)]; rfl
  ·right
   rw [if_neg (fun e=>c3 (v3.1 e)),if_neg c3,aM (by simp; omega),bC (by omega)]
   refine ⟨_,rfl,⟨n + 1,acc ++ [c],by rw [Cl,← Ci],by simp only; omega,by omega,by omega,by simp; omega⟩,by simp only; omega,?_⟩
   simp only
   rw [Cl,← Ci,CL,show ((n:Int) + 1).toNat=n + 1 by omega]
 ·left
  rw [if_neg (by omega),List.drop_eq_nil_of_le (by omega)]; rfl
theorem xS:∀ (m:Nat) (r acc:Str) (i:Nat),r.length≤m→((iW acc i r).2.2=0→i + 1≤(iW acc i r).2.1∧(iW acc i r).2.1≤i + r.length∧(iW acc i r).1.length≤acc.length + r.length) ∧
  ((iW acc i r).2.2 ≠ 0→(iW acc i r).2.2 ≠ 3∧(iW acc i r).2.1 < i + r.length ∨ (iW acc i r).2.1=0∧(iW acc i r).2.2=12)
 | 0,r,acc,i,h=>by
  have:r=[]:=List.eq_nil_of_length_eq_zero (by omega)
  subst this
  simp [iW]
 | m + 1,[],acc,i,h=>by simp [iW]
 | m + 1,c :: r,acc,i,h=>by
  simp only [List.length_cons] at h
  have ih1:=xS m r (acc ++ [c]) (i + 1) (by omega)
  simp only [List.length_append,List.length_cons,List.length_nil] at ih1
  simp only [JQ,List.length_cons]
  split
  ·refine ⟨fun _=>by simp only; omega,fun h=>absurd rfl h⟩
  ·split
   ·simp
   ·split
    ·rcases r with _ | ⟨d,r2⟩
     ·simp
     ·simp only [List.length_cons] at h ⊢
      have ih2:=xS m r2 (acc ++ [d]) (i + 2) (by omega)
      have ih3:=xS m r2 (acc ++ [10]) (i + 2) (by omega)
      simp only [List.length_append,List.length_cons,List.length_nil] at ih2 ih3
      split
      ·exact ⟨fun h=>by have:=ih2.1 h; omega,fun h=>by have:=ih2.2 h; omega⟩
      ·split
       ·exact ⟨fun h=>by have:=ih2.1 h; omega,fun h=>by have:=ih2.2 h; omega⟩
       ·split
        ·exact ⟨fun h=>by have:=ih3.1 h; omega,fun h=>by have:=ih3.2 h; omega⟩
        ·refine ⟨fun h=>by simp at h,fun _=>.inl ⟨by simp,by simp only; omega⟩⟩
    ·exact ⟨fun h=>by have:=ih1.1 h; omega,fun h=>by have:=ih1.2 h; omega⟩
def uP (p:Bool) (u:Str):Nat:=1 + ((u.drop 1).takeWhile (isR p)).length
def qtS (z:Str × Nat × Int):(Nat × Int) ⊕ ((Int × Str) × Nat):=if z.2.2=0 then .inr ((3,z.1),z.2.1) else .inl (z.2.1,z.2.2)
def oM (u:Str):(Nat × Int) ⊕ ((Int × Str) × Nat) :=
 if (fK u).1=0 then .inl (0,1)
 else if (fK u).1=3 then qtS (iW [] 1 u.tail)
 else if (fK u).1=4 then .inr ((4,u.take (fK u).2.toNat),(fK u).2.toNat)
 else .inr (((fK u).1,u.take (uP (decide ((fK u).1=2)) u)),uP (decide ((fK u).1=2)) u)
theorem He (c:UInt8) (r:Str):((fK (c :: r)).1=0 ∨ (fK (c :: r)).1=1 ∨ (fK (c :: r)).1=2 ∨ (fK (c :: r)).1=3 ∨ (fK (c :: r)).1=4)∧((fK (c :: r)).1=4→1≤(fK (c :: r)).2∧(fK (c :: r)).2≤r.length + 1):=by
  simp only [fK]
  repeat' split
  all_goals first
    | (simp; done)
    | (simp; omega)
    | (rename_i h; rcases r with _ | ⟨d,r⟩
       · simp at h
       · simp only [List.length_cons]; refine ⟨by simp,fun _=>⟨by simp,by first | omega | (simp only; omega)⟩⟩)
theorem Oj (p:Bool) (c:UInt8) (r:Str):1≤uP p (c :: r)∧uP p (c :: r)≤r.length + 1:=by
 unfold uP
 have:=(List.takeWhile_sublist (l:=r) (isR p)).length_le
 simp only [List.drop_succ_cons,List.drop_zero]
 omega
theorem xN (c:UInt8) (r:Str):(∀ n e,oM (c :: r)=.inl (n,e)→n < r.length + 1∧e ≠ 0∧e ≠ 3)∧(∀ k w n,oM (c :: r)=.inr ((k,w),n)→1≤n∧n≤r.length + 1∧w.length≤r.length + 1):=by
 have hb:=He c r
 have ht:=xS r.length r [] 1 (Nat.le_refl _)
 have hr:=Oj (decide ((fK (c :: r)).1=2)) c r
 simp only [List.length_nil] at ht
 unfold oM
 simp only [List.tail_cons]
 split
 ·refine ⟨fun n e h=>?_,fun k w n h=>by cases h⟩
  cases h; omega
 ·split
  ·generalize iW [] 1 r=z at *
   unfold qtS
   by_cases h0:z.2.2=0
   ·rw [if_pos h0]
    have:=ht.1 h0
    refine ⟨fun n e h=>(by cases h),fun k w n h=>?_⟩
    cases h; omega
   ·rw [if_neg h0]
    have:=ht.2 h0
    refine ⟨fun n e h=>?_,fun k w n h=>by cases h⟩
    cases h; omega
  ·split
   ·rename_i h4
    have:=hb.2 h4
    refine ⟨fun n e h=>(by cases h),fun k w n h=>?_⟩
    cases h
    rw [List.length_take]; simp only [List.length_cons]; omega
   ·refine ⟨fun n e h=>(by cases h),fun k w n h=>?_⟩
    cases h
    rw [List.length_take]; simp only [List.length_cons]; omega
def lF:Nat→Str→Nat→List aN→List aN × Nat × Int
 | 0,_,a,acc=>(acc,a,0)
 | f + 1,t,a,acc=>if sk false t=[] then (acc,a + t.length,0) else match oM (sk false t) with
  | .inl z=>(acc,a + (t.length - (sk false t).length) + z.1,z.2)
  | .inr z=>lF f ((sk false t).drop z.2) (a + (t.length - (sk false t).length) + z.2) (acc ++ [⟨z.1.1,((a + (t.length - (sk false t).length):Nat):Int),z.1.2⟩])
theorem J1:∀ (f g:Nat) (t:Str) (a:Nat) (acc:List aN),t.length < f→t.length < g→lF f t a acc=lF g t a acc
 | 0,_,_,_,_,h,_=>by omega
 | _ + 1,0,_,_,_,_,h=>by omega
 | f + 1,g + 1,t,a,acc,h1,h2=>by
  unfold lF
  have hl:=EF false t
  split
  ·rfl
  ·rename_i hu
   cases hz:oM (sk false t) with
   | inl z=>rfl
   | inr z=>
    simp only
    obtain ⟨c,r,hcr⟩:∃ c r,sk false t=c :: r:=by
     cases hs:sk false t with
     | nil=>exact absurd hs hu
     | cons c r=>exact ⟨c,r,rfl⟩
    obtain ⟨⟨k,w⟩,n⟩:=z
    have:=(xN c r).2 k w n (by rw [← hcr]; exact hz)
    have hlen:=congrArg List.length hcr
    simp only [List.length_cons] at hlen
    exact J1 f g _ _ _ (by rw [List.length_drop]; omega) (by rw [List.length_drop]; omega)
theorem J3 (f:Nat) (t:Str) (a:Nat) (acc:List aN):lF (f + 1) t a acc=lF (f + 1) (sk false t) (a + (t.length - (sk false t).length)) acc:=by
 have hl:=EF false t
 conv=>lhs; unfold lF
 conv=>rhs; unfold lF
 rw [Th (uL false t),Nat.sub_self,Nat.add_zero]
 split
 ·rename_i h; rw [h]; simp
 ·rfl
theorem Ic:∀ (f:Nat) (t:Str) (a:Nat) (acc:List aN),t.length < f→∃ l,(lF f t a acc).1=acc ++ l∧l.length≤t.length∧(∀ x ∈ l,(a:Int)≤x.At∧x.At < ((a + t.length:Nat):Int)∧x.S.length≤t.length) ∧
  ((lF f t a acc).2.2=0→(lF f t a acc).2.1=a + t.length)∧((lF f t a acc).2.2 ≠ 0→(lF f t a acc).2.1 < a + t.length∧(lF f t a acc).2.2 ≠ 3)
 | 0,_,_,_,h=>by omega
 | f + 1,t,a,acc,h=>by
  have hl:=EF false t
  unfold lF
  split
  ·exact ⟨[],by simp,by simp,by simp,fun _=>rfl,fun h=>absurd rfl h⟩
  ·rename_i hu
   obtain ⟨c,r,hcr⟩:∃ c r,sk false t=c :: r:=by
    cases hs:sk false t with
    | nil=>exact absurd hs hu
    | cons c r=>exact ⟨c,r,rfl⟩
   have hlen:=congrArg List.length hcr
   simp only [List.length_cons] at hlen
   cases hz:oM (sk false t) with
   | inl z=>
    obtain ⟨n,e⟩:=z
    have:=(xN c r).1 n e (by rw [← hcr]; exact hz)
    exact ⟨[],by simp,by simp,by simp,fun h=>absurd h this.2.1,fun _=>⟨by simp only; omega,this.2.2⟩⟩
   | inr z=>
    obtain ⟨⟨k,w⟩,n⟩:=z
    have:=(xN c r).2 k w n (by rw [← hcr]; exact hz)
    obtain ⟨l,h1,h2,h3,h4,h5⟩:=Ic f ((sk false t).drop n) (a + (t.length - (sk false t).length) + n) (acc ++ [⟨k,((a + (t.length - (sk false t).length):Nat):Int),w⟩]) (by rw [List.length_drop]; omega)
    rw [List.length_drop] at h2 h3 h4 h5
    refine ⟨⟨k,((a + (t.length - (sk false t).length):Nat):Int),w⟩ :: l,by simp only; rw [h1,List.append_assoc]; rfl,by simp only [List.length_cons]; omega,fun x hx=>?_,fun h=>?_,fun h=>?_⟩
    ·rcases List.mem_cons.1 hx with rfl | hx
     ·simp only; omega
     ·have:=h3 x hx; omega
    ·have:=h4 h; simp only; omega
    ·have:=h5 h; simp only at this ⊢; exact ⟨by omega,this.2⟩
def cvL (r:List aN × Nat × Int):List aN × Int × Int:=(r.1,(r.2.1:Int),r.2.2)
def rQ (s:Str):List aN × Nat × Int:=lF (s.length + 1) s 0 []
theorem Pz (s:Str) (hs:s.length≤60000):m4 s=some (cvL (rQ s)):=by
 have hk:∀ n:Nat,n≤s.length→dX s (n:Int)=some ((s.length - (sk false (s.drop n)).length:Nat):Int):=fun n hn=>TJ s (by omega) _ n rfl hn
 have h0:dX s (0:Int)=some ((s.length - (sk false s).length:Nat):Int):=by simpa using hk 0 (by omega)
 have hl0:=EF false s
 unfold m4 rQ
 rw [h0,aC]
 simp only [aV,eU,sC,aO,bP]
 refine (dZ (fun x:List aN × Int=>∃ n:Nat,x.2=n∧n≤s.length∧Pc (s.drop n)∧x.1.length≤n) (fun x=>s.length - x.2.toNat) (fun x=>cvL (lF (s.length + 1) (s.drop x.2.toNat) x.2.toNat x.1)) ?_ ⟨_,rfl,by omega,by rw [IM]; exact uL _ _,by simp⟩).trans ?_
 ·rintro ⟨acc,i⟩ ⟨n,h1,h2,h3,h4⟩
  simp only at h1 h4
  subst h1
  simp only [Int.toNat_natCast]
  by_cases hl:n < s.length
  ·have hd:=dI hl
   generalize nth s n=c at *
   generalize hr:s.drop (n + 1)=r at *
   have hrl:r.length=s.length - (n + 1):=by rw [← hr,List.length_drop]
   have hbf:=He c r
   have htf:=xN c r
   have hrn:=Oj (decide ((fK (c :: r)).1=2)) c r
   have hsk:sk false (c :: r)=c :: r:=Th (by rw [← hd]; exact h3)
   have e0:lF (s.length + 1) (c :: r) n acc=match oM (c :: r) with
    | .inl z=>(acc,n + z.1,z.2)
    | .inr z=>lF s.length ((c :: r).drop z.2) (n + z.2) (acc ++ [⟨z.1.1,(n:Int),z.1.2⟩]):=by
    conv=>lhs; unfold lF
    rw [hsk,Nat.sub_self,Nat.add_zero,if_neg (by simp)]
    try (cases oM (c :: r) <;> rfl)
   have fin:∀ (k:Int) (w:Str) (m:Nat),oM (c :: r)=.inr ((k,w),m)→∃ s':List aN × Int,((aJ vI (fun x=>[tk (acc ++ [(⟨k,(n:Int),w⟩:aN)]).length 3 74]) (dX s ((n:Int) + (m:Int))) fun x18=>aW (acc ++ [(⟨k,(n:Int),w⟩:aN)],x18)):Option ((List aN × Int) ⊕ (List aN × Int × Int)))=some (Sum.inl s')∧(∃ n':Nat,s'.2=n'∧n'≤s.length∧Pc (s.drop n')∧s'.1.length≤n')∧s.length - s'.2.toNat < s.length - n ∧
     cvL (lF (s.length + 1) (s.drop s'.2.toNat) s'.2.toNat s'.1)=cvL (lF (s.length + 1) (c :: r) n acc):=by
    intro k w m hz
    have hm:=htf.2 k w m hz
    rw [e0,hz]
    simp only
    have hle:=EF false (s.drop (n + m))
    rw [List.length_drop] at hle
    rw [show (n:Int) + (m:Int)=((n + m:Nat):Int) by omega,hk _ (by omega),aC]
    have ed:s.drop (s.length - (sk false (s.drop (n + m))).length)=sk false (s.drop (n + m)):=by
     rw [show s.length - (sk false (s.drop (n + m))).length=(n + m) + ((s.drop (n + m)).length - (sk false (s.drop (n + m))).length) from by rw [List.length_drop]; omega,← List.drop_drop,IM]
    refine ⟨_,rfl,⟨_,rfl,by omega,by rw [ed]; exact uL _ _,by simp; omega⟩,by simp only [Int.toNat_natCast]; omega,?_⟩
    simp only [Int.toNat_natCast]
    rw [ed]
    have ed2:(c :: r).drop m=s.drop (n + m):=by rw [← hd,List.drop_drop]
    rw [ed2]
    have ep:s.length - (sk false (s.drop (n + m))).length=n + m + ((s.drop (n + m)).length - (sk false (s.drop (n + m))).length):=by rw [List.length_drop]; omega
    rw [ep,← J3,J1 s.length (s.length + 1) _ _ _ (by rw [List.length_drop]; omega) (by rw [List.length_drop]; omega)]
   rw [if_pos (by omega),if_neg (by omega),aM (by omega),Int.toNat_natCast,List.take_length,hd,Q0,aC]
   have hdt:∀ m:Nat,(s.take (n + m)).drop n=(c :: r).take m:=fun m=>by rw [List.drop_take,hd,Nat.add_sub_cancel_left]
   by_cases b0:(fK (c :: r)).1=0
   ·left
    rw [if_pos b0,e0]
    rw [show oM (c :: r)=.inl (0,1) from by unfold oM; rw [if_pos b0]]
    rfl
   rw [if_neg b0]
   by_cases b3:(fK (c :: r)).1=3
   ·have tz:oM (c :: r)=qtS (iW [] 1 r):=by unfold oM; rw [if_neg b0,if_pos b3]; rfl
    have htf1:=htf.1
    have hx0:=LP (c :: r) (by simp only [List.length_cons]; omega)
    rcases hg:iW [] 1 r with ⟨v,m,e⟩
    have hx:nW (c :: r)=some (v,(m:Int),e):=by
     rw [hx0]; show some (cv3 (iW [] 1 r))=_; rw [hg]; rfl
    rw [hg] at tz
    rw [if_pos b3,aM (by omega),hx,aC]
    simp only
    by_cases he:e=0
    ·right
     have tz2:oM (c :: r)=.inr ((3,v),m):=by rw [tz]; unfold qtS; rw [if_pos he]
     have hm:=htf.2 _ _ _ tz2
     rw [if_pos he,aM (by simp; omega),bC (by omega),b3]
     exact fin 3 v m tz2
    ·left
     have tz2:oM (c :: r)=.inl (m,e):=by rw [tz]; unfold qtS; rw [if_neg he]
     have hm:=htf1 _ _ tz2
     rw [if_neg he,bC (by omega),e0,tz2]
     simp [cvL]
   rw [if_neg b3]
   have hrun:(1 + ((((c :: r).drop 1).takeWhile (isR (decide ((fK (c :: r)).1=2)))).length:Int))=(uP (decide ((fK (c :: r)).1=2)) (c :: r):Int):=by unfold uP; omega
   have run:(fK (c :: r)).1 ≠ 4→oM (c :: r)=.inr (((fK (c :: r)).1,(c :: r).take (uP (decide ((fK (c :: r)).1=2)) (c :: r))),uP (decide ((fK (c :: r)).1=2)) (c :: r)):=fun b4=>by
    unfold oM; rw [if_neg b0,if_neg b3,if_neg b4]
   by_cases b1:(fK (c :: r)).1=1
   ·right
    rw [if_pos b1,aM (by omega),Ct _ _ (by simp only [List.length_cons]; omega),aC,hrun,bC (by omega),aM (by omega),aM (by simp; omega)]
    rw [show ((n:Int) + (uP (decide ((fK (c :: r)).1=2)) (c :: r):Int)).toNat=n + uP (decide ((fK (c :: r)).1=2)) (c :: r) by omega,hdt]
    exact fin _ _ _ (run (by omega))
   rw [if_neg b1]
   by_cases b2:(fK (c :: r)).1=2
   ·right
    rw [if_pos b2,aM (by omega),Ct _ _ (by simp only [List.length_cons]; omega),aC,hrun,bC (by omega),aM (by omega),aM (by simp; omega)]
    rw [show ((n:Int) + (uP (decide ((fK (c :: r)).1=2)) (c :: r):Int)).toNat=n + uP (decide ((fK (c :: r)).1=2)) (c :: r) by omega,hdt]
    exact fin _ _ _ (run (by omega))
   rw [if_neg b2]
   right
   have b4:(fK (c :: r)).1=4:=by omega
   have hb4:=hbf.2 b4
   obtain ⟨m,hm⟩:=Int.eq_ofNat_of_zero_le (show 0≤(fK (c :: r)).2 by omega)
   rw [hm] at hb4 ⊢
   rw [bC (by omega),aM (by omega),aM (by simp; omega)]
   rw [show ((n:Int) + (m:Int)).toNat=n + m by omega,hdt]
   exact fin _ _ _ (by unfold oM; rw [if_neg b0,if_neg b3,if_pos b4,hm,b4]; rfl)
  ·left
   have:n=s.length:=by omega
   subst this
   rw [if_neg (by omega),List.drop_length]
   simp [lF,sk,cvL]
 ·simp only [Int.toNat_natCast]
  rw [IM,J3 s.length s 0,Nat.zero_add]
theorem Qs (s:Str):(rQ s).1.length≤s.length∧(∀ x ∈ (rQ s).1,0≤x.At∧x.At < (s.length:Int)∧x.S.length≤s.length)∧((rQ s).2.2=0→(rQ s).2.1=s.length)∧((rQ s).2.2 ≠ 0→(rQ s).2.1 < s.length∧(rQ s).2.2 ≠ 3):=by
 obtain ⟨l,h1,h2,h3,h4,h5⟩:=Ic (s.length + 1) s 0 [] (by omega)
 unfold rQ
 rw [h1]
 rw [Nat.zero_add] at h3 h4 h5
 exact ⟨by simpa using h2,fun x hx=>by have:=h3 x (by simpa using hx); omega,h4,h5⟩
theorem Nh {k:Int}{s:Str}{t:List Kt} (h:isT k s t=true):t ≠ []:=by
 intro e; rw [e] at h; cases h
def q5:Nat→List a6→List Kt→Pr (List a6)
 | 0,_,t=>.er t 0
 | f + 1,acc,t=>if isT 4 [125] t then .ok acc t.tail else if 16≤acc.length∧isT 1 mO t=true then .er t 4 else match lY t with
  | .er u e=>.er u e
  | .ok r u=>if rU acc r.Name then .er t.tail 6 else q5 f (acc ++ [r]) u
def E3 (nm:Str) (d o:Int) (t:List Kt):Pr aI:=if isT 4 [123] t then (match q5 17 [] t.tail with
  | .er u e=>.er u e
  | .ok rs u=>.ok ⟨nm,d,o,rs⟩ u) else wr t
def O7 (nm:Str) (d:Int) (u:List Kt):Pr aI:=if isT 1 R1 u then (match g9 u.tail with
  | .er v e=>.er v e
  | .ok o v=>if d≤o then .er u.tail 2 else E3 nm d o v) else E3 nm d 0 u
def Ib (nm:Str) (t:List Kt):Pr aI:=if isT 1 MR t then (match g9 t.tail with
  | .er u e=>.er u e
  | .ok d u=>if d=0 then .er t.tail 2 else O7 nm d u) else wr t
def BZ (ahead:List aI) (t:List Kt):Pr aI:=if isT 1 LL t then (if 16≤ahead.length then .er t 4 else match pO t.tail with
  | .er u e=>.er u e
  | .ok nm u=>if xB ahead nm then .er t.tail 6 else Ib nm u) else wr t
def EZ:Nat→List aI→List Kt→Pr (List aI)
 | 0,_,t=>.er t 0
 | f + 1,acc,t=>if t=[] then .ok acc [] else match BZ acc t with
  | .er u e=>.er u e
  | .ok g u=>EZ f (acc ++ [g]) u
def O8 (t:List Kt):Pr (List aI):=EZ (t.length + 1) [] t
theorem J9 {α:Type} (p:List α→α→Bool) (x:α):∀ (l a:List α),mE p a (l ++ [x])=(mE p a l && p (a ++ l) x)
 | [],a=>by simp [mE]
 | y :: l,a=>by simp only [List.cons_append,mE,J9 p x l,Bool.and_assoc,List.append_assoc,List.nil_append]
theorem Nz (l:List a6) (r:a6):mR (l ++ [r])=(mR l && (eB r && !rU l r.Name)):=by
 unfold mR; rw [J9]; rfl
theorem G9 {t:List Kt} (h:t ≠ []):∃ y,t=[y] ++ t.tail:=by
 rcases t with _ | ⟨y,t⟩
 ·exact absurd rfl h
 ·exact ⟨y,rfl⟩
theorem FW:∀ (f:Nat) (acc:List a6) (t:List Kt),acc.length + f=17→1≤f→mR acc=true→bH t (q5 f acc t) (fun l=>l.length≤16∧mR l=true) 1
 | 0,_,_,_,h,_=>by omega
 | f + 1,acc,t,hl,_,hb=>by
  unfold q5
  split
  ·rename_i h1
   exact bH.okI (dP h1) (by simp) ⟨by omega,hb⟩
  ·split
   ·rename_i h2
    exact bH.erI (bX _) (by simp [Nh h2.2]) (by simp)
   ·rename_i h2
    have hf:=yC t
    cases hr:lY t with
    | er u e=>obtain ⟨_,⟨p,b⟩,c⟩:=hf.er u e hr; exact bH.erI b c.1 c.2
    | ok r u=>
     obtain ⟨h3,⟨p,b⟩,hq⟩:=hf.ok r u hr
     have hlen:=congrArg List.length b
     rw [List.length_append] at hlen
     have hne:t ≠ []:=by intro e; rw [e] at h3; simp at h3
     obtain ⟨y,hy⟩:=G9 hne
     simp only
     split
     ·refine bH.erI (p:=[y]) hy ?_ (by simp)
      constructor
      ·intro h; omega
      ·intro h
       have:=congrArg List.length h
       rw [List.length_tail] at this
       simp at this; omega
     ·rename_i h4
      have hrw:isT 1 mO t=true:=by
       unfold lY at hr
       split at hr
       ·assumption
       ·cases hr
      have ha:acc.length < 16:=by
       rcases Nat.lt_or_ge acc.length 16 with h | h
       ·exact h
       ·exact absurd ⟨h,hrw⟩ h2
      exact bH.front b (by omega) (FW f (acc ++ [r]) u (by simp; omega) (by omega) (by rw [Nz,hb,hq]; simp [h4]))
theorem RD {nm:Str}{d o:Int}{rs:List a6} (h1:cJ nm=true) (h2:tmB d=true) (h3:d ≠ 0) (h4:0≤o) (h5:o < d) (h6:rs.length≤16) (h7:mR rs=true):fO ⟨nm,d,o,rs⟩=true:=by
 unfold fO
 simp only [h1,h2,h7,Bool.true_and,Bool.and_true,decide_eq_false h3,decide_eq_true h6,decide_eq_false (show ¬ o < 0 by omega),decide_eq_false (show ¬ d≤o by omega)]
 rfl
theorem Im {nm:Str}{d o:Int} (h1:cJ nm=true) (h2:tmB d=true) (h3:d ≠ 0) (h4:0≤o) (h5:o < d) (t:List Kt):bH t (E3 nm d o t) (fun g=>fO g=true∧g.Name=nm) 2:=by
 unfold E3
 split
 ·rename_i h
  refine bH.front (dP h) (m:=1) (by simp) ?_
  rcases (FW 17 [] t.tail rfl (by omega) rfl).split with ⟨u,e,p,hr,hp,h6,h0⟩ | ⟨rs,u,p,hr,hp,hl,hq⟩ <;> rw [hr] <;> dsimp only
  ·exact bH.erI hp h6 h0
  ·exact bH.okI hp hl ⟨RD h1 h2 h3 h4 h5 hq.1 hq.2,rfl⟩
 ·exact bH.wrI (bX _)
theorem IX {t:List Kt}{u p:List Kt} (hp:t.tail=p ++ u) (hl:1≤p.length):t.tail ≠ []:=by
 intro e; rw [e] at hp
 have:=congrArg List.length hp
 rw [List.length_append] at this; simp at this; omega
theorem QD {nm:Str}{d:Int} (h1:cJ nm=true) (h2:tmB d=true) (h3:d ≠ 0) (t:List Kt):bH t (O7 nm d t) (fun g=>fO g=true∧g.Name=nm) 2:=by
 have hd:=m7.1 h2
 unfold O7
 split
 ·rename_i h
  refine bH.front (dP h) (m:=2) (by simp) ?_
  rcases (wO t.tail).split with ⟨u,e,p,hr,hp,h6,h0⟩ | ⟨o,u,p,hr,hp,hl,hq⟩ <;> rw [hr] <;> dsimp only
  ·exact bH.erI hp h6 h0
  ·split
   ·exact bH.erI (bX _) (by simp [IX hp hl]) (by simp)
   ·have ho:=m7.1 hq
    exact bH.front hp (by omega) (Im h1 h2 h3 (by omega) (by omega) u)
 ·exact Im h1 h2 h3 (by omega) (by omega) t
theorem NI {nm:Str} (h1:cJ nm=true) (t:List Kt):bH t (Ib nm t) (fun g=>fO g=true∧g.Name=nm) 2:=by
 unfold Ib
 split
 ·rename_i h
  refine bH.front (dP h) (m:=2) (by simp) ?_
  rcases (wO t.tail).split with ⟨u,e,p,hr,hp,h6,h0⟩ | ⟨d,u,p,hr,hp,hl,hq⟩ <;> rw [hr] <;> dsimp only
  ·exact bH.erI hp h6 h0
  ·split
   ·exact bH.erI (bX _) (by simp [IX hp hl]) (by simp)
   ·rename_i hd
    exact bH.front hp (by omega) (QD h1 hq hd u)
 ·exact bH.wrI (bX _)
theorem Zy (ahead:List aI) (t:List Kt):bH t (BZ ahead t) (fun g=>fO g=true∧xB ahead g.Name=false∧ahead.length < 16) 2:=by
 unfold BZ
 split
 ·rename_i h
  split
  ·exact bH.erI (bX _) (by simp [Nh h]) (by simp)
  ·rename_i h16
   refine bH.front (dP h) (m:=2) (by simp) ?_
   rcases (p3 t.tail).split with ⟨u,e,p,hr,hp,h6,h0⟩ | ⟨nm,u,p,hr,hp,hl,hq⟩ <;> rw [hr] <;> dsimp only
   ·exact bH.erI hp h6 h0
   ·split
    ·exact bH.erI (bX _) (by simp [IX hp hl]) (by simp)
    ·rename_i hh
     exact (bH.front hp (by omega) (NI hq u)).mono (fun g hg=>⟨hg.1,by rw [hg.2]; simpa using hh,by omega⟩) (Nat.le_refl _)
 ·exact bH.wrI (bX _)
theorem kH {α β:Type} (ks:List Nat) (w:List Obj) (enc:α→AV) (ob:α→List Obj) (a:α) (me:Flt→Option β) (m:α→Option β):eY ks w enc ob (some (.ok a)) me m=m a:=rfl
theorem fJ {α β:Type} (ks:List Nat) (w:List Obj) (enc:α→AV) (ob:α→List Obj) (z:Flt) (me:Flt→Option β) (m:α→Option β):eY ks w enc ob (some (.error z)) me m=me z:=rfl
theorem Ip {β:Type} (W:List Nat) (t:Tr) (m:Option β):D3 W t m=m:=rfl
theorem Tb {β:Type} (a b c:Nat) (m:Option β):KX a b c m=m:=rfl
theorem BX {β:Type} (m:Option β):kR m=m:=rfl
def exR {α:Type} (l:List aN):Pr α→Except Flt (α × Int)
 | .er u e=>.error (mI l u,e)
 | .ok a u=>.ok (a,mI l u)
section
variable (l:List aN) (i:Nat) (f:List aI)
theorem Wt (k:Int) (s:Str):i8 k s l (i:Int) f=some (isT k s (tks l i)):=by
 unfold i8
 simp only [aV,bI,aO]
 by_cases h:i < l.length
 ·rw [if_pos (by omega),a8 (bJ h),EL h]
  by_cases h1:(nth l i).K=k
  ·rw [if_pos h1,decide_eq_true h1,Bool.true_and]
  ·rw [if_neg h1,decide_eq_false h1,Bool.false_and]
 ·rw [if_neg (by omega),gQ (by omega)]; rfl
theorem GP (k:Int) (s:Str) (hl:l.length≤100000000):dG k s l (i:Int) f=some (isT k s (tks l i),if isT k s (tks l i) then ((i + 1:Nat):Int) else (i:Int)):=by
 unfold dG
 rw [Wt,bG]
 simp only [aV,bI]
 cases h:isT k s (tks l i)
 ·rfl
 ·have hlt:=eS h
  rw [aZ,bC (by omega)]; rfl
theorem Jg:fB l (i:Int) f=some (.error ((i:Int),wrE (tks l i))):=by
 unfold fB
 simp only [aV,aO,BX,cV]
 by_cases h:i < l.length
 ·rw [if_neg (by omega),l6 h]; rfl
 ·rw [if_pos (by omega),gQ (by omega)]; rfl
theorem Ih (k:Int) (s:Str) (hl:l.length≤100000000):cY k s l (i:Int) f=some (if isT k s (tks l i) then .ok ((i + 1:Nat):Int) else .error ((i:Int),wrE (tks l i))):=by
 unfold cY
 rw [GP l i f k s hl,bG]
 simp only [aV,bP]
 cases h:isT k s (tks l i)
 ·simp only [bA,Bool.false_eq_true,if_false]
  rw [Jg,fJ]; rfl
 ·simp only [aZ,if_true]; try rfl
theorem QP (k:Int) (hl:l.length≤100000000):gK k l (i:Int) f=some (if isK k (tks l i) then .ok ((nth l i).S,((i + 1:Nat):Int)) else .error ((i:Int),wrE (tks l i))):=by
 unfold gK
 simp only [aV,aO,bP]
 by_cases h:i < l.length
 ·rw [if_neg (by omega),a8 (bJ h),sE h]
  by_cases h1:(nth l i).K=k
  ·rw [if_pos h1,decide_eq_true h1,bC (x:=(i:Int) + 1) (by omega),bC (x:=(i:Int) + 1 - 1) (by omega),show (i:Int) + 1 - 1=(i:Int) by omega,a8 (bJ h)]; rfl
  ·rw [if_neg h1,decide_eq_false h1,Jg,fJ]; rfl
 ·rw [if_pos (by omega),Jg,fJ,gQ (by omega)]; rfl
theorem Da:(∃ e,g9 (tks l i)=.er (tks l i) e∧isK 2 (tks l i)=true∧(lD (nth l i).S).2=e∧e ≠ 0) ∨ (isK 2 (tks l i)=false∧g9 (tks l i)=wr (tks l i)) ∨ (i < l.length∧isK 2 (tks l i)=true∧(lD (nth l i).S).2=0∧g9 (tks l i)=.ok (lD (nth l i).S).1 (tks l (i + 1))):=by
 cases h:isK 2 (tks l i)
 ·exact .inr (.inl ⟨rfl,LJ h⟩)
 ·have hd:=Jn h
  by_cases h0:(lD (nth l i).S).2=0
  ·rw [if_pos h0] at hd; exact .inr (.inr ⟨kL h,rfl,h0,hd⟩)
  ·rw [if_neg h0] at hd; exact .inl ⟨_,hd,rfl,rfl,h0⟩
theorem GJ (hs:SmT l) (hi:i≤l.length):eT l (i:Int) f=some (exR l (g9 (tks l i))):=by
 have hl:=hs.1
 unfold eT
 rw [QP l i f 2 hl]
 rcases Da l i with ⟨e,h1,h2,h3,h4⟩ | ⟨h1,h2⟩ | ⟨h1,h2,h3,h4⟩
 ·have hlt:=kL h2
  rw [if_pos h2,kH]
  simp only [aV,bP,aO,BX]
  rw [sY _ (hs.2 _ (dV hlt)),aC,if_neg (by rw [h3]; exact h4),bC (by omega),h1]
  simp only [exR,bU hi,cV,h3]
  congr 3; omega
 ·rw [h1,if_neg (by simp),fJ,h2]
  simp only [wr,exR,bU hi,cV]
 ·rw [if_pos h2,kH]
  simp only [aV,bP,aO,BX]
  rw [sY _ (hs.2 _ (dV h1)),aC,if_pos h3,h4]
  simp only [exR,bU (show i + 1≤l.length by omega),okM]
def xW (acc:List a6) (t:List Kt):Pr a6:=if 16≤acc.length∧isT 1 mO t=true then .er t 4 else match lY t with
  | .er u e=>.er u e
  | .ok r u=>if rU acc r.Name then .er t.tail 6 else .ok r u
theorem N8 (n:Nat) (acc:List a6) (t:List Kt):q5 (n + 1) acc t=if isT 4 [125] t then .ok acc t.tail else match xW acc t with
  | .er u e=>.er u e
  | .ok r u=>q5 n (acc ++ [r]) u:=by
 conv=>lhs; unfold q5
 unfold xW
 by_cases h1:isT 4 [125] t=true
 ·rw [if_pos h1,if_pos h1]
 ·rw [if_neg h1,if_neg h1]
  by_cases h2:16≤acc.length∧isT 1 mO t=true
  ·rw [if_pos h2,if_pos h2]
  ·rw [if_neg h2,if_neg h2]
   cases lY t with
   | er u e=>rfl
   | ok r u=>simp only; split <;> rfl
theorem Qg (acc:List a6) (t:List Kt):bH t (xW acc t) (fun r=>eB r=true∧rU acc r.Name=false∧acc.length < 16) 7:=by
 unfold xW
 split
 ·rename_i h2
  exact bH.erI (bX _) (by simp [Nh h2.2]) (by simp)
 ·rename_i h2
  have hf:=yC t
  cases hr:lY t with
  | er u e=>obtain ⟨_,⟨p,b⟩,c⟩:=hf.er u e hr; exact bH.erI b c.1 c.2
  | ok r u=>
   obtain ⟨h3,⟨p,b⟩,hq⟩:=hf.ok r u hr
   have hlen:=congrArg List.length b
   rw [List.length_append] at hlen
   have hne:t ≠ []:=by intro e; rw [e] at h3; simp at h3
   obtain ⟨y,hy⟩:=G9 hne
   simp only
   split
   ·refine bH.erI (p:=[y]) hy ?_ (by simp)
    constructor
    ·intro h; omega
    ·intro h
     have:=congrArg List.length h
     rw [List.length_tail] at this
     simp at this; omega
   ·rename_i h4
    have hrw:isT 1 mO t=true:=by
     unfold lY at hr
     split at hr
     ·assumption
     ·cases hr
    have ha:acc.length < 16:=by
     rcases Nat.lt_or_ge acc.length 16 with h | h
     ·exact h
     ·exact absurd ⟨h,hrw⟩ h2
    exact bH.okI b (by omega) ⟨hq,by simpa using h4,ha⟩
theorem Qv (acc:List a6) (hs:SmT l) (hi:i≤l.length) (ha:acc.length≤16):gM acc l (i:Int) f=some (exR l (xW acc (tks l i))):=by
 have hl:=hs.1
 unfold gM
 simp only [aV,ME,BX,Tb,aO,bP]
 have rest:(aJ (fun x5=>AV.tup [(ag bL) x5.1,vI x5.2.1,vI x5.2.2]) (fun x5=>[Obj.box [sl aB l,vI (i:Int),so 1 aD f],.tok f.length 4 34 false,.box [vS ([]:Str),vS ([]:Str),.v (.slice none 0 0),vI (0:Int),vI (0:Int),vI (0:Int),vI (0:Int),.v (.slice none 0 0)]]) (nZ l (i:Int)) fun x5=>
   if x5.2.2=0 then aJ vB (fun _=>([]:List Obj)) (jW acc x5.1.Name) fun x7=>aF x7 (cV (wI ((i:Int) + 1),(6:Int))) (okM (x5.1,x5.2.1)) else cV (x5.2.1,x5.2.2))=some (exR l (match lY (tks l i) with
  | .er u e=>.er u e
  | .ok r u=>if rU acc r.Name then .er (tks l i).tail 6 else .ok r u)):=by
  rw [Kf l i hs,aC]
  have hf:=(yC (tks l i)).toks hi
  rcases hf with ⟨e,j,hr,h1,h2,h3,h4⟩ | ⟨r,j,hr,h1,h2,h3⟩
  ·rw [hr,tQ h2]
   simp only
   rw [if_neg h3]
   simp only [exR,bU h2,cV]
  ·rw [hr,Hz h2]
   simp only [if_true]
   rw [Aq _ _ (by omega),aC]
   cases hh:rU acc r.Name
   ·simp only [bA,Bool.false_eq_true,if_false,exR,bU h2]; try rfl
   ·simp only [aZ,if_true,dN,exR,bU (show i + 1≤l.length by omega),cV]
    rw [bC (by omega)]; rfl
 unfold xW
 by_cases h16:(16:Int)≤(acc.length:Int)
 ·rw [if_pos h16,Wt,bG]
  cases hT:isT 1 mO (tks l i)
  ·rw [show isT 1 ([114,117,108,101]:Str) (tks l i)=false from hT,bA,Gj]
   simp only [Option.bind_some,Sum.elim_inl,Bool.false_eq_true,and_false,if_false]
   exact rest
  ·rw [show isT 1 ([114,117,108,101]:Str) (tks l i)=true from hT,aZ,if_pos ⟨by omega,rfl⟩]
   simp only [cV,iP,Option.bind_some,Sum.elim_inr,exR,bU hi]
 ·rw [if_neg h16,Gj,if_neg (fun h=>h16 (by omega))]
  simp only [Option.bind_some,Sum.elim_inl]
  exact rest
end
def Pr.map {α β:Type} (g:α→β):Pr α→Pr β
 | .er u e=>.er u e
 | .ok a u=>.ok (g a) u
theorem Cs {ph:Int × List a6→List (Nat × AV)}{ob:Int × List a6→List Obj}{step:Int × List a6→Option (Int × List a6 ⊕ Except Flt (aI × Int))} (l:List aN) (hs:SmT l) (mk:List a6→aI)
  (h1:∀ (i:Nat) (acc:List a6),i≤l.length→acc.length≤16→step ((i:Int),acc)=if isT 4 [125] (tks l i) then some (.inr (.ok (mk acc,((i + 1:Nat):Int)))) else match exR l (xW acc (tks l i)) with
   | .error z=>some (.inr (.error z))
   | .ok (r,j)=>some (.inl (j,acc ++ [r]))) :
  ∀ (n:Nat) (acc:List a6) (i:Nat),acc.length + n=17→1≤n→i≤l.length→bQ ph ob step ((i:Int),acc)=some (exR l ((q5 n acc (tks l i)).map mk))
 | 0,_,_,_,h,_=>by omega
 | n + 1,acc,i,hn,_,hi=>by
  have e:=h1 i acc hi (by omega)
  rw [N8]
  by_cases hT:isT 4 [125] (tks l i)=true
  ·have hlt:=eS hT
   rw [if_pos hT] at e ⊢
   rw [l7 e,dN]
   simp only [Pr.map,exR,bU (show i + 1≤l.length by omega)]
  ·rw [if_neg hT] at e ⊢
   rcases (Qg acc (tks l i)).toks hi with ⟨er,j,hr,_,h3,_,_⟩ | ⟨r,j,hr,h2,h3,_,_,h4⟩
   ·rw [hr] at e ⊢
    simp only [exR] at e
    rw [l7 e]; rfl
   ·rw [hr] at e ⊢
    simp only [exR,bU h3] at e
    rw [xV e]
    exact Cs l hs mk h1 n (acc ++ [r]) j (by simp; omega) (by omega) h3
theorem TR (l:List aN) (i:Nat) (f:List aI) (hs:SmT l) (hi:i≤l.length) (hf:f.length≤1000):iT l (i:Int) f=some (exR l (BZ f (tks l i))):=by
 have hl:=hs.1
 have e1:cY (1:Int) ([103,114,111,117,112]:Str) l (i:Int) f=_:=Ih l i f 1 LL hl
 unfold iT BZ
 simp only [aV,eU,aO,bP,BX,eC,I1,QF]
 rw [e1]
 cases h1:isT 1 LL (tks l i)
 ·rw [if_neg (by simp),if_neg (by simp),fJ]
  simp only [wr,exR,bU hi,cV]
 have k1:=eS h1
 rw [if_pos rfl,if_pos rfl,kH,dN]
 by_cases h16:16≤f.length
 ·rw [if_pos (by omega),if_pos h16,bC (by omega)]
  simp only [exR,bU hi,cV]
  congr 3; omega
 rw [if_neg (by omega),if_neg h16,QP l (i + 1) f 1 hl]
 cases h2:isK 1 (tks l (i + 1))
 ·rw [if_neg (by simp),fJ,IV h2]
  simp only [wr,exR,bU (show i + 1≤l.length by omega),cV]
 have k2:=kL h2
 rw [if_pos rfl,kH,GF h2]
 simp only
 rw [jA,aC]
 cases h3:cJ (nth l (i + 1)).S
 ·rw [bA,if_neg (by simp),bC (by omega)]
  simp only [exR,bU (show i + 1≤l.length by omega),cV]
  congr 3; omega
 rw [aZ,if_pos rfl,zP _ _ (by omega),aC]
 simp only
 cases h4:xB f (nth l (i + 1)).S
 ·rw [bA,if_neg (by simp)]
  have e2:cY (1:Int) ([101,118,101,114,121]:Str) l ((i + 1 + 1:Nat):Int) f=_:=Ih l (i + 1 + 1) f 1 MR hl
  unfold Ib
  rw [e2]
  cases h5:isT 1 MR (tks l (i + 1 + 1))
  ·rw [if_neg (by simp),if_neg (by simp),fJ]
   simp only [wr,exR,bU (show i + 1 + 1≤l.length by omega),cV]
  have k5:=eS h5
  rw [if_pos rfl,if_pos rfl,kH,dN,GJ l (i + 1 + 1 + 1) f hs (by omega)]
  rcases Da l (i + 1 + 1 + 1) with ⟨e,d1,d2,d3,d4⟩ | ⟨d1,d2⟩ | ⟨d1,d2,d3,d4⟩
  ·rw [d1]
   simp only [exR]
   rw [fJ]; rfl
  ·rw [d2]
   simp only [exR,wr]
   rw [fJ]; rfl
  rw [d4]
  simp only [exR,bU (show i + 1 + 1 + 1 + 1≤l.length by omega)]
  rw [kH]
  simp only
  generalize (lD (nth l (i + 1 + 1 + 1)).S).1=d
  by_cases h0:d=0
  ·rw [if_pos h0,if_pos h0,bC (by omega)]
   simp only [bU (show i + 1 + 1 + 1≤l.length by omega),cV]
   congr 3; omega
  rw [if_neg h0,if_neg h0]
  have e3:dG (1:Int) ([111,102,102,115,101,116]:Str) l ((i + 1 + 1 + 1 + 1:Nat):Int) f=_:=GP l (i + 1 + 1 + 1 + 1) f 1 R1 hl
  unfold O7
  rw [e3,bG]
  cases h6:isT 1 R1 (tks l (i + 1 + 1 + 1 + 1))
  ·simp only [bA,Bool.false_eq_true,if_false]
   have e4:cY (4:Int) ([123]:Str) l ((i + 1 + 1 + 1 + 1:Nat):Int) f=_:=Ih l (i + 1 + 1 + 1 + 1) f 4 [123] hl
   unfold E3
   rw [e4]
   cases h7:isT 4 [123] (tks l (i + 1 + 1 + 1 + 1))
   ·rw [if_neg (by simp),if_neg (by simp),fJ]
    simp only [wr,exR,bU (show i + 1 + 1 + 1 + 1≤l.length by omega),cV]
   ·have k7:=eS h7
    rw [if_pos rfl,if_pos rfl,kH,dN]
    refine (Cs l hs (fun rs=>(⟨(nth l (i + 1)).S,d,0,rs⟩:aI)) ?_ 17 [] (i + 1 + 1 + 1 + 1 + 1) rfl (by omega) (by omega)).trans ?_
    ·intro j acc hj ha
     have e5:dG (4:Int) ([125]:Str) l (j:Int) f=_:=GP l j f 4 [125] hl
     simp only
     rw [e5,bG]
     cases h8:isT 4 [125] (tks l j)
     ·simp only [bA,Bool.false_eq_true,if_false,Ip]
      rw [Qv l j f acc hs hj ha]
      cases hx:exR l (xW acc (tks l j)) with
      | error z=>rw [fJ]; rfl
      | ok z=>rw [kH,aM (by simp; omega)]; rfl
     ·simp only [aZ,if_true]; try rfl
    ·cases q5 17 [] (tks l (i + 1 + 1 + 1 + 1 + 1)) <;> rfl
  ·have k6:=eS h6
   simp only [aZ,if_true]
   rw [dN,GJ l (i + 1 + 1 + 1 + 1 + 1) f hs (by omega)]
   rcases Da l (i + 1 + 1 + 1 + 1 + 1) with ⟨e,d1,d2,d3,d4⟩ | ⟨d1,d2⟩ | ⟨d1,d2,d3,d4⟩
   ·rw [d1]
    simp only [exR]
    rw [fJ]; rfl
   ·rw [d2]
    simp only [exR,wr]
    rw [fJ]; rfl
   rw [d4]
   simp only [exR,bU (show i + 1 + 1 + 1 + 1 + 1 + 1≤l.length by omega)]
   rw [kH]
   simp only
   generalize (lD (nth l (i + 1 + 1 + 1 + 1 + 1)).S).1=o
   by_cases h9:d≤o
   ·rw [if_pos h9,if_pos h9,bC (by omega)]
    simp only [bU (show i + 1 + 1 + 1 + 1 + 1≤l.length by omega),cV]
    congr 3; omega
   rw [if_neg h9,if_neg h9]
   have e4:cY (4:Int) ([123]:Str) l ((i + 1 + 1 + 1 + 1 + 1 + 1:Nat):Int) f=_:=Ih l (i + 1 + 1 + 1 + 1 + 1 + 1) f 4 [123] hl
   unfold E3
   rw [e4]
   cases h7:isT 4 [123] (tks l (i + 1 + 1 + 1 + 1 + 1 + 1))
   ·rw [if_neg (by simp),if_neg (by simp),fJ]
    simp only [wr,exR,bU (show i + 1 + 1 + 1 + 1 + 1 + 1≤l.length by omega),cV]
   ·have k7:=eS h7
    rw [if_pos rfl,if_pos rfl,kH,dN]
    refine (Cs l hs (fun rs=>(⟨(nth l (i + 1)).S,d,o,rs⟩:aI)) ?_ 17 [] (i + 1 + 1 + 1 + 1 + 1 + 1 + 1) rfl (by omega) (by omega)).trans ?_
    ·intro j acc hj ha
     have e5:dG (4:Int) ([125]:Str) l (j:Int) f=_:=GP l j f 4 [125] hl
     simp only
     rw [e5,bG]
     cases h8:isT 4 [125] (tks l j)
     ·simp only [bA,Bool.false_eq_true,if_false,Ip]
      rw [Qv l j f acc hs hj ha]
      cases hx:exR l (xW acc (tks l j)) with
      | error z=>rw [fJ]; rfl
      | ok z=>rw [kH,aM (by simp; omega)]; rfl
     ·simp only [aZ,if_true]; try rfl
    ·cases q5 17 [] (tks l (i + 1 + 1 + 1 + 1 + 1 + 1 + 1)) <;> rfl
 ·rw [aZ,if_pos rfl,bC (by omega)]
  simp only [exR,bU (show i + 1≤l.length by omega),cV]
  congr 3; omega
theorem Rt {α β:Type} (sl:List (Nat × AV)) (ob:List Obj) (a:α) (m:α→Option β):Qc sl ob (some a) m=m a:=rfl
theorem Tz {β:Type} (i k:Nat) (m:Option β):S9 i k m=m:=rfl
theorem TM {β:Type} (m:Option β):M7 m=m:=rfl
def GR (l:List aN) (u:List Kt) (n:Int):Int:=if mI l u < (l.length:Int) then (nth l (mI l u).toNat).At else n
def SJ (l:List aN) (n:Int):Pr (List aI)→List aI × Int × Int
 | .ok f _=>(f,n,0)
 | .er u e=>([],GR l u n,e)
theorem RJ (l:List aN) (u:List Kt) (e:Int) (hu:u.length≤l.length) (s:Str) (f:List aI) (a b:Int):m6 (mI l u,e) s f a b l=some ([],GR l u s.length,e):=by
 unfold m6 GR
 simp only [TM,rX,aV,aO,bI]
 by_cases h:mI l u < (l.length:Int)
 ·have h0:0≤mI l u:=by unfold mI; omega
  rw [if_pos h,if_pos h,gL h0 (bJ (by omega))]
 ·rw [if_neg h,if_neg h]
theorem FQ {ph:Int × List aI→List (Nat × AV)}{ob:Int × List aI→List Obj}{step:Int × List aI→Option (Int × List aI ⊕ List aI × Int × Int)} (l:List aN) (n0:Int)
  (h1:∀ (i:Nat) (acc:List aI),i≤l.length→acc.length≤16→step ((i:Int),acc)=if i < l.length then (match BZ acc (tks l i) with
   | .er u e=>some (.inr ([],GR l u n0,e))
   | .ok g u=>some (.inl (mI l u,acc ++ [g]))) else some (.inr (acc,n0,0))) :
  ∀ (n:Nat) (acc:List aI) (i:Nat),l.length - i < n→i≤l.length→acc.length≤16→bQ ph ob step ((i:Int),acc)=some (SJ l n0 (EZ n acc (tks l i)))
 | 0,_,_,h,_,_=>by omega
 | n + 1,acc,i,hn,hi,ha=>by
  have e:=h1 i acc hi ha
  unfold EZ
  by_cases hl:i < l.length
  ·rw [if_pos hl] at e
   rw [if_neg (by rw [l6 hl]; simp)]
   rcases (Zy acc (tks l i)).toks hi with ⟨er,j,hr,_,h3,_,_⟩ | ⟨g,j,hr,h2,h3,_,_,h4⟩
   ·rw [hr] at e ⊢
    rw [l7 e]; rfl
   ·rw [hr] at e ⊢
    simp only [bU h3] at e
    rw [xV e]
    exact FQ l n0 h1 n (acc ++ [g]) j (by omega) h3 (by simp; omega)
  ·rw [if_neg hl] at e
   rw [l7 e,if_pos (gQ (by omega))]; rfl
def M4 (s:Str):List aI × Int × Int:=if (rQ s).2.2=0 then SJ (rQ s).1 s.length (O8 ((rQ s).1.map kv)) else ([],(rQ s).2.1,(rQ s).2.2)
theorem Ke (s:Str) (l:List aN) (n e:Int) (hx:m4 s=some (l,n,e)) (hsm:SmT l):kT s=some (if e=0 then SJ l s.length (O8 (l.map kv)) else ([],n,e)):=by
 have hl:=hsm.1
 unfold kT
 rw [hx,aC]
 simp only [aV,eU,bP,aO,Ip,Tz,I1,QF,rX,bI]
 by_cases h0:e=0
 ·rw [if_pos h0,if_pos h0]
  refine (FQ l (s.length:Int) ?_ (l.length + 1) [] 0 (by omega) (by omega) (by simp)).trans (by rw [S0]; unfold O8; rw [List.length_map])
  intro i acc hi ha
  simp only
  by_cases hlt:i < l.length
  ·rw [if_pos (by omega),if_pos hlt,TR l i acc hsm hi (by omega)]
   rcases (Zy acc (tks l i)).toks hi with ⟨er,j,hr,_,h3,_,_⟩ | ⟨g,j,hr,h2,h3,_,_,h4⟩
   ·rw [hr]
    simp only [exR]
    rw [fJ,RJ l _ _ (by rw [EO]; omega),Rt]
    rfl
   ·rw [hr]
    simp only [exR]
    rw [kH,aM (by simp; omega)]; rfl
  ·rw [if_neg (by omega),if_neg hlt]; rfl
 ·rw [if_neg h0,if_neg h0]
theorem Di (s:Str) (hs:s.length≤60000):kT s=some (M4 s):=by
 obtain ⟨f1,f2,f3,f4⟩:=Qs s
 exact Ke s _ _ _ (Pz s hs) ⟨by omega,fun x hx=>by have:=f2 x hx; omega⟩
end Go.Proofs.YthgenmkengbmmaaGreatDoor.AM
namespace Go.Proofs.YthgenmkengbmmaaGreatDoor.AM

open Go
end Go.Proofs.YthgenmkengbmmaaGreatDoor.AM
namespace Go.Proofs.YthgenmkengbmmaaGreatDoor.AM
open Go
open Go.Lib (decDigits)
end Go.Proofs.YthgenmkengbmmaaGreatDoor.AM
namespace Go.Proofs.YthgenmkengbmmaaGreatDoor.AM
open Go
def bN (f:List aI):List aI:=if lJ f then f else []
def nJ (g:aI):List bE:=g.Rules.map fun r=>⟨g.Name,r.Name⟩
def cE (f:List aI):List bE:=f.flatMap nJ
def kP (g:aI) (r:a6):bK:=⟨j4 r,g.Interval,g.Offset⟩
def mM (g:aI) (l:List a6):List (bE × bK):=l.map fun r=>(⟨g.Name,r.Name⟩,kP g r)
def mB (f:List aI):List (bE × bK):=f.flatMap fun g=>mM g g.Rules
def jR (es l:List (bE × bK)):List (bE × bK):=l.foldl (fun es e=>mst es e.1 e.2) es
theorem HR (es l m:List (bE × bK)):jR es (l ++ m)=jR (jR es l) m:=by unfold jR; rw [List.foldl_append]
theorem pQ (f:List aI):(bN f).length≤16∧∀ g ∈ bN f,fO g=true:=by
 unfold bN
 cases h:lJ f
 ·simp
 ·exact ⟨(oH h).1,(oH h).2.2⟩
theorem sZ (f:List aI):lH f=some (bN f):=by
 unfold lH bN
 rw [sR,aC]
 cases lJ f <;> rfl
theorem Rm {g:aI} (h:fO g=true):(nJ g).length≤16:=by
 unfold nJ; rw [List.length_map]; exact (jY h).2.2.2.2.2.1
theorem DR:∀ {f:List aI},(∀ g ∈ f,fO g=true)→(cE f).length≤16 * f.length
 | [],_=>by simp [cE]
 | g :: f,h=>by
  have h1:=Rm (h g (by simp))
  have h2:=DR (f:=f) fun x hx=>h x (by simp [hx])
  simp only [cE,List.flatMap_cons,List.length_append,List.length_cons] at h2 ⊢
  omega
theorem eK {α:Type} [Inhabited α] {l:List α}{i:Nat} (h:i < l.length):l.take (i + 1)=l.take i ++ [nth l i]:=by rw [List.take_succ,bJ h]; rfl
theorem Cq (f:List aI) (g:aI):cE (f ++ [g])=cE f ++ nJ g:=by simp [cE]
theorem C8 (f:List aI) (hf:∀ g ∈ f,fO g=true) (hl:f.length≤16) (i:Nat):(cE (f.take i)).length≤256:=by
 have:=DR (f:=f.take i) fun g hg=>hf g (List.mem_of_mem_take hg)
 rw [List.length_take] at this; omega
theorem jC (f:List aI):g5 f=some (cE (bN f)):=by
 obtain ⟨hl,hb⟩:=pQ f
 unfold g5
 rw [sZ,aC]
 generalize bN f=a at *
 simp only [aV,eU,sC,aO,bI]
 refine (tD a.length (fun i acc=>acc=cE (a.take i)) (fun _ _=>cE a) ?_ ?_ (by simp [cE])).trans rfl
 ·rintro i acc hi rfl
  right
  have hg:=hb _ (dV hi)
  have hkl:=(jY hg).2.2.2.2.2.1
  have hk:=C8 a hb hl i
  rw [if_pos (by simp only; omega),a8 (bJ hi),eK hi,Cq]
  generalize nth a i=g at *
  generalize cE (a.take i)=K at *
  refine ⟨K ++ nJ g,?_,rfl,rfl⟩
  refine (tD g.Rules.length (fun k acc=>acc=K ++ (g.Rules.take k).map fun r=>⟨g.Name,r.Name⟩) (fun _ _=>(Sum.inl (((i + 1:Nat):Int),K ++ nJ g):(Int × List bE) ⊕ List bE)) ?_ ?_ (by simp)).trans rfl
  ·rintro k acc hk2 rfl
   right
   rw [if_pos (by simp only; omega),a8 (bJ hk2),aM (by simp; omega),bC (by simp only; omega),eK hk2]
   exact ⟨_,rfl,by simp,rfl⟩
  ·rintro acc rfl
   rw [if_neg (by simp only; omega),bC (by simp only; omega)]
   simp [nJ]
 ·rintro acc rfl
  rw [if_neg (by simp only; omega),List.take_length]
  rfl
theorem mN (f:List aI):iE f=some (jR [] (mB (bN f))):=by
 obtain ⟨hl,hb⟩:=pQ f
 unfold iE
 rw [eU,sZ,aC]
 generalize bN f=a at *
 simp only [aV,eU,aO,bI,Gf]
 refine (fC a.length (fun i acc=>acc=jR [] (mB (a.take i))) (fun _ _=>jR [] (mB a)) ?_ ?_ (by simp [mB,jR])).trans rfl
 ·rintro i acc hi rfl
  right
  have hg:=hb _ (dV hi)
  have hkl:=(jY hg).2.2.2.2.2.1
  rw [if_pos (by simp only; omega),a8 (bJ hi),eK hi,show mB (a.take i ++ [nth a i])=mB (a.take i) ++ mM (nth a i) (nth a i).Rules by simp [mB],HR]
  generalize nth a i=g at *
  generalize jR [] (mB (a.take i))=M at *
  refine ⟨jR M (mM g g.Rules),?_,rfl,rfl⟩
  refine (fC g.Rules.length (fun k acc=>acc=jR M (mM g (g.Rules.take k))) (fun _ _=>(Sum.inl (jR M (mM g g.Rules),((i + 1:Nat):Int)):(List (bE × bK) × Int) ⊕ List (bE × bK))) ?_ ?_ (by simp [mM,jR])).trans rfl
  ·rintro k acc hk2 rfl
   right
   rw [if_pos (by simp only; omega),a8 (bJ hk2),Kh,aC,bC (by simp only; omega),eK hk2]
   refine ⟨_,rfl,?_,rfl⟩
   simp only [mM,List.map_append,HR]
   rfl
  ·rintro acc rfl
   rw [if_neg (by simp only; omega),bC (by simp only; omega),List.take_length]
   rfl
 ·rintro acc rfl
  rw [if_neg (by simp only; omega),List.take_length]
  rfl
def oT (n:Str) (k:bE):List a6→Nat→Option Nat
 | [],_=>none
 | r :: l,j=>if k.Group=n∧k.Rule=r.Name then some j else oT n k l (j + 1)
def kO (k:bE):List aI→Nat→Option (Nat × Nat)
 | [],_=>none
 | g :: f,i=>match oT g.Name k g.Rules 0 with
  | some j=>some (i,j)
  | none=>kO k f (i + 1)
def F1:Option (Nat × Nat)→Int × Int × Bool
 | some (i,j)=>((i:Int),(j:Int),true)
 | none=>(0,0,false)
theorem n9 (f:List aI) (k:bE):jN f k=some (F1 (kO k (bN f) 0)):=by
 obtain ⟨hl,hb⟩:=pQ f
 unfold jN
 rw [sZ,aC]
 generalize bN f=a at *
 simp only [aV,aO,bI]
 refine (dA a.length (fun i=>F1 (kO k (a.drop i) i)) ?_ ?_).trans (by simp)
 ·intro i hi
  have hg:=hb _ (dV hi)
  have hkl:=(jY hg).2.2.2.2.2.1
  rw [if_pos (by omega),a8 (bJ hi),dI hi]
  simp only [kO]
  generalize nth a i=g at *
  have e:=dA (ph:=fun (x7:Int)=>[(3,.ptr 0 0),(7,vI (i:Int)),(8,.ptr 1 0),(12,sl aD a),(13,vI (a.length:Int)),(14,vI (i:Int)),(20,sl bL g.Rules),(21,vI (g.Rules.length:Int)),(22,vI x7)]) (ob:=fun (_:Int)=>[.box [vS k.Group,vS k.Rule],.box [vS g.Name,vI g.Interval,vI g.Offset,sl bL g.Rules]])
   (step:=fun (x7:Int)=>if x7 < (g.Rules.length:Int) then bM g.Rules x7 fun x9=>aF (decide (k.Group=g.Name) && (decide (k.Rule=x9.Name) && true)) (aQ (aQ (some ((i:Int),x7,true)))) (aW (wI (x7 + 1))) else aQ (aW (wI ((i:Int) + 1)))) g.Rules.length
   (fun j=>(match oT g.Name k (g.Rules.drop j) j with | some m=>Sum.inr ((i:Int),(m:Int),true) | none=>Sum.inl ((i + 1:Nat):Int):Int ⊕ (Int × Int × Bool))) (by
    intro j hj
    rw [if_pos (by omega),a8 (bJ hj),dI hj]
    simp only [oT]
    by_cases h:k.Group=g.Name∧k.Rule=(nth g.Rules j).Name
    ·left; rw [if_pos h,decide_eq_true h.1,decide_eq_true h.2]; rfl
    ·right
     rw [if_neg h,show (decide (k.Group=g.Name) && (decide (k.Rule=(nth g.Rules j).Name) && true))=false from by
      rw [Bool.and_true,← Bool.decide_and,decide_eq_false_iff_not]; exact h,bA,bC (by omega)]
     exact ⟨rfl,rfl⟩) (by
    rw [if_neg (by omega),bC (by omega),List.drop_eq_nil_of_le (Nat.le_refl _)]; rfl)
  simp only [List.drop_zero] at e
  rw [e]
  cases oT g.Name k g.Rules 0 with
  | some m=>left; rfl
  | none=>right; exact ⟨rfl,rfl⟩
 ·rw [if_neg (by omega),List.drop_eq_nil_of_le (Nat.le_refl _)]; rfl
theorem OV {κ α:Type} [DecidableEq κ] (k k2:κ) (x:α):∀ es:List (κ × α),mlk (mst es k x) k2=if k2=k then some x else mlk es k2
 | []=>by simp [mst,mlk]
 | (a,y) :: es=>by
  unfold mst
  by_cases h:k=a
  ·rw [if_pos h]; subst h
   simp only [mlk]
   by_cases h2:k2=k
   ·rw [if_pos h2,if_pos h2]
   ·rw [if_neg h2,if_neg h2,if_neg h2]
  ·rw [if_neg h]
   simp only [mlk]
   rw [OV k k2 x es]
   by_cases h2:k2=a
   ·rw [if_pos h2,if_pos h2,if_neg (by rw [h2]; exact fun e=>h e.symm)]
   ·rw [if_neg h2,if_neg h2]
def lkE (l:List (bE × bK)) (k:bE):Option bK:=(l.find? fun e=>decide (e.1=k)).map (·.2)
theorem lB (e:bE × bK) (l:List (bE × bK)) (k:bE):lkE (e :: l) k=if e.1=k then some e.2 else lkE l k:=by
 unfold lkE
 rw [List.find?_cons]
 by_cases h:e.1=k
 ·simp [h]
 ·simp [h]
theorem SW {l:List (bE × bK)}{k:bE} (h:k ∉ l.map (·.1)):lkE l k=none:=by
 induction l with
 | nil=>rfl
 | cons e l ih=>
  simp only [List.map_cons,List.mem_cons,not_or] at h
  rw [lB,if_neg (fun e2=>h.1 e2.symm),ih h.2]
theorem OG:∀ (l es:List (bE × bK)) (k:bE),(l.map (·.1)).Nodup→mlk (jR es l) k=(lkE l k).or (mlk es k)
 | [],es,k,_=>by simp [jR,lkE]
 | e :: l,es,k,h=>by
  rw [List.map_cons,List.nodup_cons] at h
  show mlk (jR (mst es e.1 e.2) l) k=_
  rw [OG l _ k h.2,OV,lB]
  by_cases h2:k=e.1
  ·subst h2; rw [SW h.1,if_pos rfl,if_pos rfl]; rfl
  ·rw [if_neg h2,if_neg (fun e2=>h2 e2.symm)]
theorem Ch {α:Type}{p:List α→α→Bool}{n:α→Str} (hp:∀ a x,p a x=true→∀ y ∈ a,n y ≠ n x):∀ (l a:List α),mE p a l=true→(l.map n).Nodup∧∀ x ∈ l,∀ y ∈ a,n y ≠ n x
 | [],_,_=>⟨by simp,fun x hx=>by cases hx⟩
 | x :: l,a,h=>by
  simp only [mE,Bool.and_eq_true] at h
  obtain ⟨h1,h2⟩:=Ch hp l (a ++ [x]) h.2
  refine ⟨?_,fun z hz y hy=>?_⟩
  ·rw [List.map_cons,List.nodup_cons]
   refine ⟨fun hm=>?_,h1⟩
   obtain ⟨z,hz,e⟩:=List.mem_map.1 hm
   exact h2 z hz x (by simp) e.symm
  ·rcases List.mem_cons.1 hz with rfl | hz
   ·exact hp a z h.1 y hy
   ·exact h2 z hz y (by simp [hy])
theorem NA {l:List a6} (h:mR l=true):(l.map (·.Name)).Nodup:=by
 refine (Ch (p:=fun a r=>eB r && !rU a r.Name) (n:=fun r:a6=>r.Name) (fun a x hx y hy e=>?_) l [] h).1
 simp only [Bool.and_eq_true,Bool.not_eq_true'] at hx
 have:=hx.2
 unfold rU at this
 rw [List.any_eq_false] at this
 exact this y hy (by simpa using e)
theorem Lv {f:List aI} (h:Bx f=true):(f.map (·.Name)).Nodup:=by
 refine (Ch (p:=fun a g=>fO g && !xB a g.Name) (n:=fun g:aI=>g.Name) (fun a x hx y hy e=>?_) f [] h).1
 simp only [Bool.and_eq_true,Bool.not_eq_true'] at hx
 have:=hx.2
 unfold xB at this
 rw [List.any_eq_false] at this
 exact this y hy (by simpa using e)
theorem QU {f:List aI}{k:bE} (h:k ∈ cE f):k.Group ∈ f.map (·.Name):=by
 unfold cE at h
 obtain ⟨g,hg,hk⟩:=List.mem_flatMap.1 h
 unfold nJ at hk
 obtain ⟨r,_,rfl⟩:=List.mem_map.1 hk
 exact List.mem_map.2 ⟨g,hg,rfl⟩
theorem FM (n:Str):∀ l:List a6,(l.map (·.Name)).Nodup→(l.map fun r=>(⟨n,r.Name⟩:bE)).Nodup
 | [],_=>by simp
 | r :: l,h=>by
  rw [List.map_cons,List.nodup_cons] at h ⊢
  refine ⟨fun hm=>h.1 ?_,FM n l h.2⟩
  obtain ⟨x,hx,e⟩:=List.mem_map.1 hm
  simp only [bE.mk.injEq,true_and] at e
  exact List.mem_map.2 ⟨x,hx,e⟩
theorem Fr:∀ f:List aI,(f.map (·.Name)).Nodup→(∀ g ∈ f,(g.Rules.map (·.Name)).Nodup)→(cE f).Nodup
 | [],_,_=>by simp [cE]
 | g :: f,h,hr=>by
  rw [List.map_cons,List.nodup_cons] at h
  have ih:=Fr f h.2 fun x hx=>hr x (by simp [hx])
  show (nJ g ++ cE f).Nodup
  rw [List.nodup_append]
  refine ⟨FM _ _ (hr g (by simp)),ih,fun a ha b hb e=>?_⟩
  subst e
  have:=QU hb
  unfold nJ at ha
  obtain ⟨r,_,rfl⟩:=List.mem_map.1 ha
  exact h.1 this
theorem sV (f:List aI):(cE (bN f)).Nodup:=by
 unfold bN
 cases h:lJ f
 ·simp [cE]
 ·obtain ⟨_,h2,h3⟩:=oH h
  exact Fr f (Lv h2) fun g hg=>NA (jY (h3 g hg)).2.2.2.2.2.2.1
theorem Ed:∀ f:List aI,(mB f).map (·.1)=cE f
 | []=>rfl
 | g :: f=>by
  have:=Ed f
  simp only [mB,cE,List.flatMap_cons,List.map_append] at this ⊢
  rw [this]
  simp [mM,nJ]
def dW (f:List aI) (k:bE):Option bK:=lkE (mB (bN f)) k
def j9 (x y:Option bK):Bool:=match x,y with
 | some a,some b=>decide (a=b)
 | _,_=>false
def bZ (a b:List aI) (k:bE):Bool:=j9 (dW a k) (dW b k)
theorem Ge (f:List aI) (k:bE):mlk (jR [] (mB (bN f))) k=dW f k:=by
 rw [OG _ _ _ (by rw [Ed]; exact sV f)]
 show (dW f k).or none=_
 cases dW f k <;> rfl
theorem Dr (k:bE) (m n:List (bE × bK)):kZ k m n=some (j9 (mlk m k) (mlk n k)):=by
 unfold kZ EJ
 cases mlk m k with
 | none=>cases mlk n k <;> rfl
 | some x=>
  cases mlk n k with
  | none=>rfl
  | some y=>
   simp only [aV,bI,j9]
   congr 1
   obtain ⟨a,b,c⟩:=x
   obtain ⟨a2,b2,c2⟩:=y
   simp only [bK.mk.injEq,Bool.and_true,Bool.decide_and]
theorem lL (a b:List aI) (k:bE):fS a b k=some (bZ a b k):=by
 unfold fS
 rw [rX,mN,aC,mN,aC,Dr,bG,Ge,Ge]
 rfl
theorem PD (x y:Option bK):j9 x y=j9 y x:=by
 cases x with
 | none=>cases y <;> rfl
 | some a=>
  cases y with
  | none=>rfl
  | some b=>
   simp only [j9]
   rw [decide_eq_decide]
   exact ⟨fun h=>h.symm,fun h=>h.symm⟩
theorem yE (a b:List aI) (k:bE):bZ a b k=bZ b a k:=PD _ _
theorem wV {f:List aI}{k:bE}:(dW f k).isSome=true ↔ k ∈ cE (bN f):=by
 rw [← Ed]
 unfold dW
 generalize mB (bN f)=l
 induction l with
 | nil=>simp [lkE]
 | cons e l ih=>
  rw [lB]
  by_cases h:e.1=k
  ·rw [if_pos h]; simp [h]
  ·rw [if_neg h,ih]
   simp only [List.map_cons,List.mem_cons]
   exact ⟨.inr,fun h2=>h2.elim (fun e2=>absurd e2.symm h) id⟩
theorem J6 {a b:List aI}{k:bE} (h:bZ a b k=true):k ∈ cE (bN a)∧k ∈ cE (bN b):=by
 rw [← wV,← wV]
 unfold bZ j9 at h
 split at h
 ·rename_i x y h1 h2; rw [h1,h2]; exact ⟨rfl,rfl⟩
 ·cases h
theorem f0 {α:Type} (p:α→Bool) (l:List α) (x:α):(l ++ [x]).filter p=l.filter p ++ (if p x then [x] else []):=by
 rw [List.filter_append]; congr 1
 simp only [List.filter_cons,List.filter_nil]
def iB (a b:List aI):List bE × List bE × List bE:=((cE (bN b)).filter (bZ a b),(cE (bN b)).filter (fun k=>!bZ a b k),(cE (bN a)).filter fun k=>!bZ a b k)
theorem jX (f:List aI):(cE (bN f)).length≤256:=by
 obtain ⟨h1,h2⟩:=pQ f
 have:=DR h2; omega
theorem j7 (a b:List aI):eM a b=some (iB a b):=by
 have la:=jX a
 have lb:=jX b
 unfold eM iB
 rw [mN,aC,mN,aC,jC,aC,jC]
 simp only [aV,eU,sC,aO,bP,bI,Dr,bG,Ge]
 have hs:∀ k,j9 (dW a k) (dW b k)=bZ a b k:=fun _=>rfl
 simp only [hs]
 generalize cE (bN a)=x at *
 generalize cE (bN b)=y at *
 refine (dZ (fun s:List bE × Int × List bE=>∃ n:Nat,s.2.1=n∧n≤y.length∧s.1=(y.take n).filter (fun k=>!bZ a b k)∧s.2.2=(y.take n).filter (bZ a b)) (fun s=>y.length - s.2.1.toNat) (fun _=>(y.filter (bZ a b),y.filter (fun k=>!bZ a b k),x.filter fun k=>!bZ a b k)) ?_ ⟨0,rfl,by omega,by simp,by simp⟩)
 rintro ⟨c,i,s⟩ ⟨n,h1,h2,h3,h4⟩
 simp only at h1 h3 h4
 subst h1 h3 h4
 have tl:=(List.filter_sublist (l:=y.take n) (p:=fun k=>!bZ a b k)).length_le
 have tl2:=(List.filter_sublist (l:=y.take n) (p:=bZ a b)).length_le
 rw [List.length_take] at tl tl2
 simp only
 by_cases hn:n < y.length
 ·right
  rw [if_pos (by omega),a8 (bJ hn)]
  cases hk:bZ a b (nth y n)
  ·rw [bA,aM (by simp only [List.length_cons,List.length_nil]; omega),bC (by omega)]
   refine ⟨_,rfl,⟨n + 1,by simp only; omega,by omega,?_,?_⟩,by simp only; omega,trivial⟩
   ·rw [eK hn,f0,hk]; rfl
   ·rw [eK hn,f0,hk]; simp
  ·rw [aZ,aM (by simp only [List.length_cons,List.length_nil]; omega),bC (by omega)]
   refine ⟨_,rfl,⟨n + 1,by simp only; omega,by omega,?_,?_⟩,by simp only; omega,trivial⟩
   ·rw [eK hn,f0,hk]; simp
   ·rw [eK hn,f0,hk]; rfl
 ·left
  have:n=y.length:=by omega
  subst this
  rw [if_neg (by omega),List.take_length,aC]
  rw [fC (ph:=_) (ob:=_) x.length (fun i acc=>acc=(x.take i).filter (fun k=>!bZ a b k)) (fun _ _=>(y.filter (bZ a b),y.filter (fun k=>!bZ a b k),x.filter fun k=>!bZ a b k)) ?_ ?_ (by simp)]
  ·rfl
  ·rintro i acc hi rfl
   right
   have tl3:=(List.filter_sublist (l:=x.take i) (p:=fun k=>!bZ a b k)).length_le
   rw [List.length_take] at tl3
   rw [if_pos (by simp only; omega),a8 (bJ hi),bC (by simp only; omega)]
   cases hk:bZ a b (nth x i)
   ·rw [bA,aM (by simp only [List.length_cons,List.length_nil]; omega)]
    exact ⟨_,rfl,by rw [eK hi,f0,hk]; rfl,rfl⟩
   ·rw [aZ]
    exact ⟨_,rfl,by rw [eK hi,f0,hk]; simp,rfl⟩
  ·rintro acc rfl
   rw [if_neg (by simp only; omega),List.take_length]; rfl
theorem mD (a b:List bE) (h:a.length≤9223372036854775807):eF a b=some (decide (a=b)):=by
 unfold eF
 simp only [aV,aO,bP,bI]
 by_cases hl:(a.length:Int)=b.length
 ·rw [if_pos hl]
  have hl:a.length=b.length:=by omega
  refine (dA a.length (fun i=>decide (a.drop i=b.drop i)) ?_ ?_).trans (by simp)
  ·intro i hi
   have hi2:i < b.length:=by omega
   rw [if_pos (by omega),a8 (bJ hi),a8 (bJ hi2),dI hi,dI hi2]
   have e:(decide ((nth a i).Group=(nth b i).Group) && (decide ((nth a i).Rule=(nth b i).Rule) && true))=decide (nth a i=nth b i):=by
    obtain ⟨p,q⟩:=nth a i
    obtain ⟨p2,q2⟩:=nth b i
    simp only [bE.mk.injEq,Bool.and_true,Bool.decide_and]
   rw [e]
   by_cases h2:nth a i=nth b i
   ·right; rw [decide_eq_true h2,aZ,bC (by omega),h2]; exact ⟨rfl,by simp⟩
   ·left; rw [decide_eq_false h2,bA]; simp [h2]
  ·rw [if_neg (by omega),List.drop_eq_nil_of_le (Nat.le_refl _),List.drop_eq_nil_of_le (by omega)]; rfl
 ·rw [if_neg hl]
  have:a ≠ b:=fun h=>hl (by rw [h])
  simp [this]
theorem Ti (f:List aI) (h:zL f):uS f=some (bN f):=by
 unfold uS bN
 rw [KE f h,aC]
 cases lJ f <;> rfl
theorem xF (f:List aI) (h:zL f):nC f=some (cE (bN f)):=by
 obtain ⟨hl,hb⟩:=pQ f
 unfold nC
 rw [Ti f h,aC]
 generalize bN f=a at *
 simp only [aV,eU,sC,aO,bI,Gf]
 refine (fC a.length (fun i acc=>acc=cE (a.take i)) (fun _ _=>cE a) ?_ ?_ (by simp [cE])).trans rfl
 ·rintro i acc hi rfl
  right
  have hg:=hb _ (dV hi)
  have hkl:=(jY hg).2.2.2.2.2.1
  have hk:=C8 a hb hl i
  rw [if_pos (by simp only; omega),eK hi,Cq]
  have hi2:∀ {β:Type} (m:aI→Option β),bM a (i:Int) m=m (nth a i):=fun m=>a8 (bJ hi) m
  simp only [hi2]
  generalize nth a i=g at *
  generalize cE (a.take i)=K at *
  refine ⟨K ++ nJ g,?_,rfl,trivial⟩
  refine (fC g.Rules.length (fun k acc=>acc=K ++ (g.Rules.take k).map fun r=>⟨g.Name,r.Name⟩) (fun _ _=>(Sum.inl (K ++ nJ g,((i + 1:Nat):Int)):(List bE × Int) ⊕ List bE)) ?_ ?_ (by simp)).trans rfl
  ·rintro k acc hk2 rfl
   right
   rw [if_pos (by simp only; omega),a8 (bJ hk2),aM (by simp; omega),bC (by simp only; omega),eK hk2]
   exact ⟨_,rfl,by simp,rfl⟩
  ·rintro acc rfl
   rw [if_neg (by first | omega | (simp only; omega)),bC (by first | omega | (simp only; omega))]
   simp [nJ]
 ·rintro acc rfl
  rw [if_neg (by first | omega | (simp only; omega)),List.take_length]
  rfl
theorem w7 (f:List aI) (k:bE) (h:zL f):nI f k=some (F1 (kO k (bN f) 0)):=by
 obtain ⟨hl,hb⟩:=pQ f
 unfold nI
 rw [Ti f h,aC]
 generalize bN f=a at *
 simp only [aV,aO,bI]
 refine (dA a.length (fun i=>F1 (kO k (a.drop i) i)) ?_ ?_).trans (by simp)
 ·intro i hi
  have hg:=hb _ (dV hi)
  have hkl:=(jY hg).2.2.2.2.2.1
  have hi2:∀ {β:Type} (m:aI→Option β),bM a (i:Int) m=m (nth a i):=fun m=>a8 (bJ hi) m
  rw [if_pos (by omega),dI hi]
  simp only [kO,hi2]
  generalize nth a i=g at *
  have e:∀ (ph:Int→List (Nat × AV)) (ob:Int→List Obj),bQ ph ob (fun (x5:Int)=>if x5 < (g.Rules.length:Int) then (if g.Name=k.Group then bM g.Rules x5 fun x10=>if x10.Name=k.Rule then aQ (aQ (some ((i:Int),x5,true))) else aW (wI (x5 + 1)) else aW (wI (x5 + 1))) else aQ (aW (wI ((i:Int) + 1)))) 0=some
   (match oT g.Name k g.Rules 0 with | some m=>Sum.inr ((i:Int),(m:Int),true) | none=>Sum.inl ((i + 1:Nat):Int):Int ⊕ (Int × Int × Bool)):=fun ph ob=>by
   refine (dA g.Rules.length (fun j=>(match oT g.Name k (g.Rules.drop j) j with | some m=>Sum.inr ((i:Int),(m:Int),true) | none=>Sum.inl ((i + 1:Nat):Int):Int ⊕ (Int × Int × Bool))) ?_ ?_).trans (by simp)
   ·intro j hj
    rw [if_pos (by omega),dI hj]
    simp only [oT]
    by_cases h1:g.Name=k.Group
    ·rw [if_pos h1,a8 (bJ hj)]
     by_cases h2:(nth g.Rules j).Name=k.Rule
     ·left; rw [if_pos h2,if_pos ⟨h1.symm,h2.symm⟩]; rfl
     ·right; rw [if_neg h2,if_neg (fun h=>h2 h.2.symm),bC (by omega)]; exact ⟨rfl,rfl⟩
    ·right; rw [if_neg h1,if_neg (fun h=>h1 h.1.symm),bC (by omega)]; exact ⟨rfl,rfl⟩
   ·rw [if_neg (by omega),bC (by omega),List.drop_eq_nil_of_le (Nat.le_refl _)]; rfl
  rw [e]
  cases oT g.Name k g.Rules 0 with
  | some m=>left; rfl
  | none=>right; exact ⟨rfl,rfl⟩
 ·rw [if_neg (by omega),List.drop_eq_nil_of_le (Nat.le_refl _)]; rfl
theorem Hk (g:aI) (k:bE):∀ (l:List a6) (j0:Nat),match oT g.Name k l j0 with
  | some j=>∃ i,j=j0 + i∧i < l.length∧k=⟨g.Name,(nth l i).Name⟩∧∀ m,lkE (mM g l ++ m) k=some (kP g (nth l i))
  | none=>∀ m,lkE (mM g l ++ m) k=lkE m k
 | [],j0=>by simp [oT,mM]
 | r :: l,j0=>by
  have ih:=Hk g k l (j0 + 1)
  simp only [oT]
  by_cases h:k.Group=g.Name∧k.Rule=r.Name
  ·rw [if_pos h]
   refine ⟨0,rfl,by simp,?_,fun m=>?_⟩
   ·obtain ⟨a,b⟩:=k; simp only at h; rw [h.1,h.2]; rfl
   ·show lkE ((⟨g.Name,r.Name⟩,kP g r) :: (mM g l ++ m)) k=_
    rw [lB,if_pos (by obtain ⟨a,b⟩:=k; simp only at h; rw [h.1,h.2])]; rfl
  ·rw [if_neg h]
   have hc:∀ m,lkE (mM g (r :: l) ++ m) k=lkE (mM g l ++ m) k:=fun m=>by
    show lkE ((⟨g.Name,r.Name⟩,kP g r) :: (mM g l ++ m)) k=_
    rw [lB,if_neg (by intro e; exact h (by rw [← e]; exact ⟨rfl,rfl⟩))]
   cases hf:oT g.Name k l (j0 + 1) with
   | some j=>
    rw [hf] at ih
    obtain ⟨i,h1,h2,h3,h4⟩:=ih
    exact ⟨i + 1,by omega,by simp; omega,h3,fun m=>by rw [hc,h4]; rfl⟩
   | none=>
    rw [hf] at ih
    exact fun m=>by rw [hc,ih]
theorem Hm (k:bE):∀ (f:List aI) (i0:Nat),match kO k f i0 with
  | some (i,j)=>∃ p,i=i0 + p∧p < f.length∧j < (nth f p).Rules.length∧k=⟨(nth f p).Name,(nth (nth f p).Rules j).Name⟩∧lkE (mB f) k=some (kP (nth f p) (nth (nth f p).Rules j))
  | none=>lkE (mB f) k=none
 | [],_=>rfl
 | g :: f,i0=>by
  have ih:=Hm k f (i0 + 1)
  have hr:=Hk g k g.Rules 0
  have he:mB (g :: f)=mM g g.Rules ++ mB f:=rfl
  simp only [kO]
  rw [he]
  cases h1:oT g.Name k g.Rules 0 with
  | some j=>
   rw [h1] at hr
   obtain ⟨i,e1,e2,e3,e4⟩:=hr
   rw [Nat.zero_add] at e1
   subst e1
   exact ⟨0,rfl,by simp,e2,e3,e4 _⟩
  | none=>
   rw [h1] at hr
   simp only
   rw [hr]
   cases h2:kO k f (i0 + 1) with
   | some z=>
    obtain ⟨i,j⟩:=z
    rw [h2] at ih
    obtain ⟨p,e1,e2,e3,e4,e5⟩:=ih
    exact ⟨p + 1,by omega,by simp; omega,e3,e4,e5⟩
   | none=>rw [h2] at ih; exact ih
theorem AB (f:List aI) (k:bE):match kO k (bN f) 0 with
  | some (i,j)=>bN f=f∧lJ f=true∧i < f.length∧j < (nth f i).Rules.length∧k=⟨(nth f i).Name,(nth (nth f i).Rules j).Name⟩∧dW f k=some (kP (nth f i) (nth (nth f i).Rules j))
  | none=>dW f k=none:=by
 have h:=Hm k (bN f) 0
 cases hf:kO k (bN f) 0 with
 | none=>rw [hf] at h; exact h
 | some z=>
  obtain ⟨i,j⟩:=z
  rw [hf] at h
  obtain ⟨p,e1,e2,e3,e4,e5⟩:=h
  rw [Nat.zero_add] at e1
  subst e1
  have hb:lJ f=true:=by
   cases hb:lJ f
   ·unfold bN at e2; rw [hb] at e2; simp at e2
   ·rfl
  have hc:bN f=f:=by unfold bN; rw [hb]; rfl
  unfold dW
  rw [hc] at e2 e3 e4 e5 ⊢
  exact ⟨rfl,hb,e2,e3,e4,e5⟩
theorem Dy (a b:List aI) (k:bE) (ha:zL a) (hb:zL b):nN a b k=some (bZ a b k):=by
 have f1:=AB a k
 have f2:=AB b k
 unfold nN
 rw [w7 a k ha,aC,w7 b k hb,aC]
 simp only [aV,bI,eC,aO,n5]
 unfold bZ
 cases h1:kO k (bN a) 0 with
 | none=>rw [h1] at f1; rw [show dW a k=none from f1]; cases h2:kO k (bN b) 0 <;> rfl
 | some z=>
  obtain ⟨i,j⟩:=z
  rw [h1] at f1
  obtain ⟨c1,c2,c3,c4,c5,c6⟩:=f1
  cases h2:kO k (bN b) 0 with
  | none=>rw [h2] at f2; rw [show dW b k=none from f2,c6]; rfl
  | some z=>
   obtain ⟨m,n⟩:=z
   rw [h2] at f2
   obtain ⟨d1,d2,d3,d4,d5,d6⟩:=f2
   rw [c6,d6]
   have s1:=(ha.2 _ (dV c3)).2.2 _ (dV c4)
   have s2:=(hb.2 _ (dV d3)).2.2 _ (dV d4)
   simp only [F1,Bool.not_true,Bool.or_self,bA]
   rw [a8 (bJ c3),a8 (bJ c4),BN _ s1,aC,a8 (bJ d3),a8 (bJ d4),BN _ s2,aC]
   simp only [j9,kP,bK.mk.injEq]
   by_cases e1:j4 (nth (nth a i).Rules j)=j4 (nth (nth b m).Rules n)
   ·rw [if_pos e1]
    by_cases e2:(nth a i).Interval=(nth b m).Interval
    ·rw [if_pos e2]; simp [e1,e2]
    ·rw [if_neg e2]; simp [e2]
   ·rw [if_neg e1]; simp [e1]
theorem H2 (a b:List aI) (ha:zL a) (hb:zL b):pC a b=some (iB a b):=by
 have la:=jX a
 have lb:=jX b
 unfold pC iB
 rw [xF b hb,aC,xF a ha]
 simp only [aV,eU,sC,aO,bP,bI,Dy a b _ ha hb,aC]
 generalize cE (bN a)=x at *
 generalize cE (bN b)=y at *
 refine (dZ (fun s:Int × List bE × List bE=>∃ n:Nat,s.1=n∧n≤y.length∧s.2.2=(y.take n).filter (fun k=>!bZ a b k)∧s.2.1=(y.take n).filter (bZ a b)) (fun s=>y.length - s.1.toNat) (fun _=>(y.filter (bZ a b),y.filter (fun k=>!bZ a b k),x.filter fun k=>!bZ a b k)) ?_ ⟨0,rfl,by omega,by simp,by simp⟩)
 rintro ⟨i,s,c⟩ ⟨n,h1,h2,h3,h4⟩
 simp only at h1 h3 h4
 subst h1 h3 h4
 have tl:=(List.filter_sublist (l:=y.take n) (p:=fun k=>!bZ a b k)).length_le
 have tl2:=(List.filter_sublist (l:=y.take n) (p:=bZ a b)).length_le
 rw [List.length_take] at tl tl2
 simp only
 by_cases hn:n < y.length
 ·right
  rw [if_pos (by omega),a8 (bJ hn)]
  cases hk:bZ a b (nth y n)
  ·rw [bA,aM (by simp only [List.length_cons,List.length_nil]; omega),bC (by omega)]
   refine ⟨_,rfl,⟨n + 1,by simp only; omega,by omega,?_,?_⟩,by simp only; omega,trivial⟩
   ·rw [eK hn,f0,hk]; rfl
   ·rw [eK hn,f0,hk]; simp
  ·rw [aZ,aM (by simp only [List.length_cons,List.length_nil]; omega),bC (by omega)]
   refine ⟨_,rfl,⟨n + 1,by simp only; omega,by omega,?_,?_⟩,by simp only; omega,trivial⟩
   ·rw [eK hn,f0,hk]; simp
   ·rw [eK hn,f0,hk]; rfl
 ·left
  have:n=y.length:=by omega
  subst this
  rw [if_neg (by omega),List.take_length]
  rw [tD (ph:=_) (ob:=_) x.length (fun i acc=>acc=(x.take i).filter (fun k=>!bZ a b k)) (fun _ _=>(y.filter (bZ a b),y.filter (fun k=>!bZ a b k),x.filter fun k=>!bZ a b k)) ?_ ?_ (by simp)]
  ·rfl
  ·rintro i acc hi rfl
   right
   have tl3:=(List.filter_sublist (l:=x.take i) (p:=fun k=>!bZ a b k)).length_le
   rw [List.length_take] at tl3
   rw [if_pos (by simp only; omega),a8 (bJ hi),bC (by simp only; omega)]
   cases hk:bZ a b (nth x i)
   ·rw [bA,aM (by simp only [List.length_cons,List.length_nil]; omega)]
    exact ⟨_,rfl,by rw [eK hi,f0,hk]; rfl,rfl⟩
   ·rw [aZ]
    exact ⟨_,rfl,by rw [eK hi,f0,hk]; simp,rfl⟩
  ·rintro acc rfl
   rw [if_neg (by simp only; omega),List.take_length]; rfl
end Go.Proofs.YthgenmkengbmmaaGreatDoor.AM
