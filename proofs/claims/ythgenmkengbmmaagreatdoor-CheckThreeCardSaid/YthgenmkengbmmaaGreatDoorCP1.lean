/- P1 -/
import Derived.Test.YthgenmkengbmmaaGreatDoorCTy
import Derived.Test.YthgenmkengbmmaaGreatDoorCA4
import Derived.Test.YthgenmkengbmmaaGreatDoorCX2
import Derived.Test.YthgenmkengbmmaaGreatDoorCMd
set_option linter.all false
namespace Go.Proofs.YthgenmkengbmmaaGreatDoor.AM
open Go
theorem C7 (a:Str):ltS a a=false:=Ep _
theorem v8 {a b c:Str} (h:ltS a b=true) (k:ltS b c=true):ltS a c=true:=Gx h k
theorem D0 {a b:Str} (h:ltS a b=false) (k:ltS b a=false):a=b:=Gq h k
theorem J0 {a b:Str} (h:ltS a b=true):ltS b a=false:=by
 cases hb:ltS b a
 ·rfl
 ·have:=v8 h hb; rw [C7] at this; cases this
theorem Qo {a b c:Str} (h:ltS a b=false) (k:ltS b c=false):ltS a c=false:=by
 cases hac:ltS a c
 ·rfl
 ·cases hba:ltS b a
  ·have:=D0 h hba; subst this; rw [hac] at k; cases k
  ·have:=v8 hba hac; rw [this] at k; cases k
def pr (l:List aY) (k:Nat):aY:=l.getD k default
theorem gU {l:List aY}{k:Nat} (h:k < l.length):l[k]?=some (pr l k):=by
 rw [pr,List.getD_eq_getElem?_getD,List.getElem?_eq_getElem h]; rfl
def pV (c:Int):Bool:=(decide (97≤c) && decide (c≤122)) || (decide (65≤c) && decide (c≤90)) || decide (c=95)
def y7 (c:Int):Bool:=decide (48≤c) && decide (c≤57)
def pK (s:Str) (i:Nat):Bool:=pV (s.getD i 0).toNat || (y7 (s.getD i 0).toNat && decide (i ≠ 0))
def cJ (s:Str):Bool:=decide (1≤s.length) && decide (s.length≤64) && (List.range s.length).all (pK s)
theorem Yt {s:Str}{k:Nat} (hk:k < s.length) (h:pK s k=false):cJ s=false:=by
 simp only [cJ,Bool.and_eq_false_iff,List.all_eq_false,List.mem_range]
 exact .inr ⟨k,hk,by simp [h]⟩
theorem WL {s:Str} (h1:1≤s.length) (h2:s.length≤64) (h:∀ i,i < s.length→pK s i=true):cJ s=true:=by
 simp only [cJ,h1,h2,decide_true,Bool.true_and,List.all_eq_true,List.mem_range]
 exact h
theorem QW {s:Str} (h:s.length < 1 ∨ 64 < s.length):cJ s=false:=by
 simp only [cJ,Bool.and_eq_false_iff,decide_eq_false_iff_not]
 omega
def fT (l:List aY) (i:Nat):Bool:=cJ (pr l i).1 && decide ((pr l i).2.length≤64) && (decide (i=0) || ltS (pr l (i - 1)).1 (pr l i).1)
def gZ (l:List aY):Bool:=decide (l.length≤16) && (List.range l.length).all (fT l)
theorem Ps {l:List aY} (h1:l.length≤16) (h:∀ i,i < l.length→fT l i=true):gZ l=true:=by
 simp only [gZ,h1,decide_true,Bool.true_and,List.all_eq_true,List.mem_range]
 exact h
theorem Rf {l:List aY} (h:16 < l.length):gZ l=false:=by
 simp only [gZ,Bool.and_eq_false_iff,decide_eq_false_iff_not]; left; omega
def TV (l:List aY):List aY:=if gZ l then l else []
def Oi (n:Str):List aY→Str × Bool
 | []=>([],false)
 | p :: l=>if p.1=n then (p.2,true) else Oi n l
def YR (l:List aY) (n:Str):Str × Bool:=Oi n (TV l)
theorem EX {l:List aY}{k:Nat} (hk:k < l.length):l.drop k=pr l k :: l.drop (k + 1):=by
 have hp:=gU hk
 rw [List.drop_eq_getElem_cons hk]
 congr 1
 rw [List.getElem?_eq_getElem hk] at hp
 exact Option.some.inj hp
theorem Ux {l:List aY}{k:Nat} (hk:k < l.length):l.take (k + 1)=l.take k ++ [pr l k]:=by
 have hp:=gU hk
 rw [List.take_add_one,hp]; rfl
def Jw (a b:Str):Int:=if ltS a b then -1 else if ltS b a then 1 else 0
theorem CG {a b:Str}:Jw a b < 0 ↔ ltS a b=true:=by
 unfold Jw
 split
 ·simp [*]
 ·split <;> simp [*]
def r8 (p:aY):Bool:=decide (64 < p.2.length)
def mQ:List aY→Bool
 | []=>false
 | p :: l=>l.any (fun q=>decide (q.1=p.1)) || mQ l
def Gd (p:aY):List aY→List aY
 | []=>[p]
 | q :: l=>if ltS p.1 q.1 then p :: q :: l else q :: Gd p l
def pY:List aY→List aY
 | []=>[]
 | p :: l=>Gd p (pY l)
def q7 (l:List aY):Int :=
 if 16 < l.length then 4 else if l.any r8 then 4 else if l.all (fun p=>cJ p.1) then (if mQ l then 6 else 0) else 7
def g7 (l:List aY):List aY × Int:=if q7 l=0 then (pY l,0) else ([],q7 l)
theorem EE (p:aY):∀ l,(Gd p l).Perm (p :: l)
 | []=>.refl _
 | q :: l=>by
  unfold Gd
  split
  ·exact .refl _
  ·exact ((EE p l).cons q).trans (.swap p q l)
theorem xU:∀ l,(pY l).Perm l
 | []=>.refl _
 | p :: l=>(EE p _).trans ((xU l).cons p)
def Asc (l:List aY):Prop:=l.Pairwise (fun p q=>ltS q.1 p.1=false)
theorem L5 (p:aY):∀ {l:List aY},Asc l→Asc (Gd p l)
 | [],_=>by simp [Gd,Asc]
 | q :: l,h=>by
  obtain ⟨h1,h2⟩:=List.pairwise_cons.1 h
  unfold Gd
  split
  ·rename_i hl
   refine List.pairwise_cons.2 ⟨?_,h⟩
   intro r hr
   rcases List.mem_cons.1 hr with rfl | hr
   ·exact J0 hl
   ·have:=h1 r hr
    cases hc:ltS r.1 p.1
    ·rfl
    ·have:=v8 hc hl; rw [h1 r hr] at this; cases this
  ·rename_i hl
   refine List.pairwise_cons.2 ⟨?_,L5 p h2⟩
   intro r hr
   rcases List.mem_cons.1 ((EE p l).mem_iff.1 hr) with rfl | hr
   ·simpa using hl
   ·exact h1 r hr
theorem D4:∀ l,Asc (pY l)
 | []=>.nil
 | p :: l=>L5 p (D4 l)
theorem A1:∀ {l:List aY},mQ l=false→(l.map (·.1)).Nodup
 | [],_=>.nil
 | p :: l,h=>by
  simp only [mQ,Bool.or_eq_false_iff,List.any_eq_false,decide_eq_true_eq] at h
  simp only [List.map_cons,List.nodup_cons,List.mem_map,not_exists,not_and]
  exact ⟨fun q hq=>h.1 q hq,A1 h.2⟩
theorem Ho:∀ {l m:List aY},Asc l→Asc m→l.Perm m→(l.map (·.1)).Nodup→l=m
 | [],m,_,_,h,_=>(List.nil_perm.1 h).symm
 | p :: l,[],_,_,h,_=>absurd h.length_eq (by simp)
 | p :: l,q :: m,h1,h2,h3,h4=>by
  obtain ⟨a1,a2⟩:=List.pairwise_cons.1 h1
  obtain ⟨b1,b2⟩:=List.pairwise_cons.1 h2
  have hpq:p=q:=by
   have hp:p ∈ q :: m:=h3.mem_iff.1 List.mem_cons_self
   have hq:q ∈ p :: l:=h3.mem_iff.2 List.mem_cons_self
   rcases List.mem_cons.1 hp with h | hp
   ·exact h
   rcases List.mem_cons.1 hq with h | hq
   ·exact h.symm
   have e:=D0 (a1 q hq) (b1 p hp)
   have hn:=(List.nodup_cons.1 h4).1
   exact (hn (List.mem_map.2 ⟨q,hq,e⟩)).elim
  subst hpq
  rw [Ho a2 b2 (h3.cons_inv) (List.nodup_cons.1 h4).2]
theorem MX {l m:List aY} (h:mQ l=false) (hp:m.Perm l) (ha:Asc m):m=pY l :=
 Ho ha (D4 l) (hp.trans (xU l).symm) ((hp.map (·.1)).nodup_iff.2 (A1 h))
theorem Qk {l:List aY}{k:Nat} (hk:k < l.length) (h:(l.take k).any (fun q=>decide (q.1=(pr l k).1))=true):mQ l=true:=by
 induction l generalizing k with
 | nil=>simp at hk
 | cons p l ih=>
  cases k with
  | zero=>simp at h
  | succ k=>
   have hp:pr (p :: l) (k + 1)=pr l k:=rfl
   rw [hp] at h
   simp only [List.take_succ_cons,List.any_cons,Bool.or_eq_true,decide_eq_true_eq] at h
   simp only [mQ,Bool.or_eq_true,List.any_eq_true,decide_eq_true_eq]
   simp only [List.length_cons] at hk
   rcases h with h | h
   ·left; exact ⟨pr l k,List.mem_of_getElem? (gU (by omega)),h.symm⟩
   ·right; exact ih (by omega) h
theorem Qj {l:List aY} (h:∀ k,k < l.length→(l.take k).any (fun q=>decide (q.1=(pr l k).1))=false):mQ l=false:=by
 induction l with
 | nil=>rfl
 | cons p l ih=>
  simp only [mQ,Bool.or_eq_false_iff]
  constructor
  ·rw [List.any_eq_false]
   intro q hq
   obtain ⟨j,hj,rfl⟩:=List.mem_iff_getElem.1 hq
   have:=h (j + 1) (by simp; omega)
   simp only [List.take_succ_cons,List.any_cons,Bool.or_eq_false_iff] at this
   have e:pr (p :: l) (j + 1)=l[j]:=by
    have:=gU (l:=p :: l) (k:=j + 1) (by simp; omega)
    simp only [List.getElem?_cons_succ,List.getElem?_eq_getElem hj] at this
    exact (Option.some.inj this).symm
   rw [e] at this
   simp only [decide_eq_true_eq,decide_eq_false_iff_not] at this ⊢
   exact fun e=>this.1 e.symm
  ·refine ih fun k hk=>?_
   have:=h (k + 1) (by simp; omega)
   simp only [List.take_succ_cons,List.any_cons,Bool.or_eq_false_iff] at this
   exact this.2
theorem Mi {l:List aY}{e:Int} (h:q7 l=e) (he:e ≠ 0):g7 l=([],e):=by rw [g7,h,if_neg he]
theorem Sc {l:List aY} (h:q7 l=0):g7 l=(pY l,0):=by rw [g7,if_pos h]
def Sq (l:List aY):Nat→Int
 | 0=>0
 | k + 1=>IntKind.i64.wrap (IntKind.i64.wrap (Sq l k + (pr l k).1.length) + (pr l k).2.length)
def Lo (l:List aY):Bool:=decide (l.length≤40) && decide (Sq l l.length≤3000)
theorem R6 {l:List aY} (h:Lo l=true):l.length≤40:=by
 simp only [Lo,Bool.and_eq_true,decide_eq_true_eq] at h; exact h.1
structure zA (l:List aY):Prop where
 len:l.length≤16
 short:∀ p ∈ l,r8 p=false
 name:∀ p ∈ l,cJ p.1=true
 once:mQ l=false
theorem Fy {l:List aY}:q7 l=0 ↔ zA l:=by
 unfold q7
 constructor
 ·intro h
  split at h
  ·cases h
  ·rename_i h1
   split at h
   ·cases h
   ·rename_i h2
    split at h
    ·rename_i h3
     split at h
     ·cases h
     ·rename_i h4
      exact ⟨by omega,by simpa using h2,by simpa using h3,by simpa using h4⟩
    ·cases h
 ·rintro ⟨h1,h2,h3,h4⟩
  rw [if_neg (by omega),if_neg (by simpa using h2),if_pos (by simpa using h3),if_neg (by simp [h4])]
theorem Al {l:List aY}:mQ l=false ↔ (l.map (·.1)).Nodup:=by
 constructor
 ·exact A1
 ·intro h
  induction l with
  | nil=>rfl
  | cons p l ih=>
   obtain ⟨h1,h2⟩:=List.nodup_cons.1 h
   simp only [mQ,Bool.or_eq_false_iff,List.any_eq_false,decide_eq_true_eq]
   exact ⟨fun q hq e=>h1 (List.mem_map.2 ⟨q,hq,e⟩),ih h2⟩
theorem zA.perm {l m:List aY} (h:zA l) (hp:m.Perm l):zA m :=
 ⟨by rw [hp.length_eq]; exact h.len,fun p hm=>h.short p (hp.mem_iff.1 hm),fun p hm=>h.name p (hp.mem_iff.1 hm),
  Al.2 (((hp.map (·.1)).nodup_iff).2 (Al.1 h.once))⟩
theorem HT {l:List aY} (h:zA l):g7 l=(pY l,0):=Sc (Fy.2 h)
theorem Mq {l:List aY} (h:zA l) (ha:Asc l):pY l=l:=(MX h.once (.refl l) ha).symm
theorem wD {l:List aY}:gZ l=true ↔ l.length≤16∧(∀ p ∈ l,cJ p.1=true)∧(∀ p ∈ l,p.2.length≤64)∧l.Pairwise (fun p q=>ltS p.1 q.1=true):=by
 have hpr:∀ p ∈ l,∃ i,i < l.length∧pr l i=p:=by
  intro p hp
  obtain ⟨i,hi,rfl⟩:=List.mem_iff_getElem.1 hp
  have e:=gU hi
  rw [List.getElem?_eq_getElem hi] at e
  exact ⟨i,hi,(Option.some.inj e).symm⟩
 constructor
 ·intro h
  simp only [gZ,Bool.and_eq_true,decide_eq_true_eq,List.all_eq_true,List.mem_range] at h
  obtain ⟨h1,h2⟩:=h
  have h3:∀ i,i < l.length→cJ (pr l i).1=true∧(pr l i).2.length≤64∧(i=0 ∨ ltS (pr l (i - 1)).1 (pr l i).1=true):=by
   intro i hi
   have:=h2 i hi
   simp only [fT,Bool.and_eq_true,decide_eq_true_eq,Bool.or_eq_true] at this
   exact ⟨this.1.1,this.1.2,this.2⟩
  refine ⟨h1,?_,?_,?_⟩
  ·intro p hp; obtain ⟨i,hi,rfl⟩:=hpr p hp; exact (h3 i hi).1
  ·intro p hp; obtain ⟨i,hi,rfl⟩:=hpr p hp; exact (h3 i hi).2.1
  ·rw [List.pairwise_iff_getElem]
   have key:∀ (d i:Nat),i + d + 1 < l.length→ltS (pr l i).1 (pr l (i + d + 1)).1=true:=by
    intro d
    induction d with
    | zero=>
     intro i hi
     rcases (h3 (i + 0 + 1) hi).2.2 with h | h
     ·omega
     ·simpa using h
    | succ d ih=>
     intro i hi
     have a:=ih i (by omega)
     rcases (h3 (i + (d + 1) + 1) hi).2.2 with h | h
     ·omega
     ·exact v8 a (by simpa [Nat.add_assoc] using h)
   intro i j hi hj hij
   have e1:=gU hi
   have e2:=gU hj
   rw [List.getElem?_eq_getElem hi] at e1
   rw [List.getElem?_eq_getElem hj] at e2
   rw [Option.some.inj e1,Option.some.inj e2]
   have:=key (j - i - 1) i (by omega)
   rwa [show i + (j - i - 1) + 1=j from by omega] at this
 ·rintro ⟨h1,h2,h3,h4⟩
  refine Ps h1 fun i hi=>?_
  have hm:pr l i ∈ l:=List.mem_of_getElem? (gU hi)
  simp only [fT,h2 _ hm,h3 _ hm,decide_true,Bool.true_and,Bool.or_eq_true,decide_eq_true_eq]
  rcases Nat.eq_zero_or_pos i with h | h
  ·exact .inl h
  ·right
   have:=List.pairwise_iff_getElem.1 h4 (i - 1) i (by omega) hi (by omega)
   have e1:=gU (l:=l) (k:=i - 1) (by omega)
   have e2:=gU hi
   rw [List.getElem?_eq_getElem (by omega)] at e1
   rw [List.getElem?_eq_getElem hi] at e2
   rw [Option.some.inj e1,Option.some.inj e2] at this
   exact this
theorem Fv {l:List aY} (h:gZ l=true):zA l∧Asc l:=by
 obtain ⟨h1,h2,h3,h4⟩:=wD.1 h
 refine ⟨⟨h1,fun p hp=>by have:=h3 p hp; simp only [r8,decide_eq_false_iff_not]; omega,h2,Al.2 ?_⟩,h4.imp fun h=>J0 h⟩
 rw [List.Nodup,List.pairwise_map]
 exact h4.imp fun {a b} hab he=>by rw [he,C7] at hab; cases hab
theorem MI {l:List aY} (h:zA l) (ha:Asc l):gZ l=true:=by
 refine wD.2 ⟨h.len,h.name,fun p hp=>by have:=h.short p hp; simp only [r8,decide_eq_false_iff_not] at this; omega,?_⟩
 have hn:=Al.1 h.once
 rw [List.Nodup,List.pairwise_map] at hn
 refine (ha.and hn).imp ?_
 rintro a b ⟨h1,h2⟩
 cases hc:ltS a.1 b.1
 ·exact (h2 (D0 hc h1)).elim
 ·rfl
theorem PS {l:List aY} (h:zA l):gZ (pY l)=true:=MI (h.perm (xU l)) (D4 l)
theorem RX {l:List aY} (h:¬ zA l):(g7 l).1=[]∧(g7 l).2 ≠ 0∧gZ l=false:=by
 have hw:q7 l ≠ 0:=fun e=>h (Fy.1 e)
 rw [Mi rfl hw]
 refine ⟨rfl,hw,?_⟩
 cases hs:gZ l
 ·rfl
 ·exact (h (Fv hs).1).elim
section
variable {α β σ:Type}
@[simp] theorem aV (enc:α→AV) (e:α) (m:α→Option β):aA enc e m=m e:=rfl
@[simp] theorem eU (enc:α→AV) (ob:α→List Obj) (e:α) (m:α→Option β):d7 enc ob e m=m e:=rfl
@[simp] theorem bI (x:β):aG x=some x:=rfl
@[simp] theorem sC (a b c:Nat) (m:Option β):uX a b c m=m:=rfl
@[simp] theorem QF (a:Nat) (m:Option β):shM a m=m:=rfl
@[simp] theorem Q7 (a:Nat) (m:Option β):K5 a m=m:=rfl
@[simp] theorem Sz (a:Nat) (m:Option β):PC a m=m:=rfl
@[simp] theorem UI (m:Option β):Sj m=m:=rfl
@[simp] theorem eC (m:Option β):eN m=m:=rfl
@[simp] theorem aZ (x y:Option β):aF true x y=x:=rfl
@[simp] theorem bA (x y:Option β):aF false x y=y:=rfl
theorem UB (b:Bool) (x y:Option β):aF b x y=if b=true then x else y:=rfl
@[simp] theorem aO (p:Prop) [Decidable p] (x y:Option β):aF (decide p) x y=if p then x else y:=by
 unfold aF; by_cases h:p <;> simp [h]
@[simp] theorem bP (b:Bool) (x y:Option β):aF (!b) x y=aF b y x:=by cases b <;> rfl
@[simp] theorem aC (enc:α→AV) (ob:α→List Obj) (a:α) (m:α→Option β):aJ enc ob (some a) m=m a:=rfl
@[simp] theorem iP (r:β):aQ (σ:=σ) (some r)=some (.inr r):=rfl
@[simp] theorem Gj (x:σ):aW (β:=β) x=some (.inl x):=rfl
@[simp] theorem ME (ph:σ→List (Nat × AV)) (ob:σ→List Obj) (rest:σ→Option β) (m:Option (σ ⊕ β)):vG ph ob rest m=m.bind (Sum.elim rest some):=rfl
theorem aM {p:Prop} [Decidable p] (h:p) (m:Option β):gdM p m=m:=if_pos h
theorem a8 {l:List α}{i:Nat}{x:α} (h:l[i]?=some x) (m:α→Option β):bM l (i:Int) m=m x:=by
 unfold bM; rw [if_pos (by omega),Int.toNat_natCast,h]; rfl
theorem gL {l:List α}{i:Int}{x:α} (h0:0≤i) (h:l[i.toNat]?=some x) (m:α→Option β):bM l i m=m x:=by
 unfold bM; rw [if_pos h0,h]; rfl
theorem bC {x:Int} (h:-9223372036854775808≤x∧x≤9223372036854775807):wI x=x:=IntWalk.i64_in x h
theorem dZ {ph:σ→List (Nat × AV)}{ob:σ→List Obj}{step:σ→Option (σ ⊕ β)} (I:σ→Prop) (μ:σ→Nat) (F:σ→β)
  (h:∀ s,I s→step s=some (.inr (F s)) ∨ ∃ s',step s=some (.inl s')∧I s'∧μ s' < μ s∧F s'=F s) {s:σ} (hs:I s):bQ ph ob step s=some (F s):=SF I μ F h s hs
theorem dA {ph:Int→List (Nat × AV)}{ob:Int→List Obj}{step:Int→Option (Int ⊕ β)} (n:Nat) (F:Nat→β)
  (h1:∀ i,i < n→step (i:Int)=some (.inr (F i)) ∨ (step (i:Int)=some (.inl ((i + 1:Nat):Int))∧F (i + 1)=F i)) (h2:step (n:Int)=some (.inr (F n))):bQ ph ob step 0=some (F 0):=by
 have:=dZ (ph:=ph) (ob:=ob) (step:=step) (fun i:Int=>0≤i∧i≤n) (fun i=>(n - i).toNat) (fun i=>F i.toNat) (by
  rintro i ⟨h0,hn⟩
  obtain ⟨k,rfl⟩:=Int.eq_ofNat_of_zero_le h0
  rcases Nat.lt_or_ge k n with hk | hk
  ·rcases h1 k hk with h | ⟨h,he⟩
   ·exact .inl (by simpa using h)
   ·exact .inr ⟨_,h,⟨by omega,by omega⟩,by omega,by simp only [Int.toNat_natCast]; exact he⟩
  ·have:k=n:=by omega
   subst this
   exact .inl (by simpa using h2)) (s:=0) ⟨by omega,by omega⟩
 simpa using this
theorem tD {A:Type}{ph:Int × A→List (Nat × AV)}{ob:Int × A→List Obj}{step:Int × A→Option (Int × A ⊕ β)} (n:Nat) (J:Nat→A→Prop) (F:Nat→A→β)
  (h1:∀ i a,i < n→J i a→step ((i:Int),a)=some (.inr (F i a)) ∨ ∃ a',step ((i:Int),a)=some (.inl (((i + 1:Nat):Int),a'))∧J (i + 1) a'∧F (i + 1) a'=F i a) (h2:∀ a,J n a→step ((n:Int),a)=some (.inr (F n a))) {a:A} (h0:J 0 a):bQ ph ob step (0,a)=some (F 0 a):=by
 have:=dZ (ph:=ph) (ob:=ob) (step:=step) (fun s:Int × A=>(0≤s.1∧s.1≤n)∧J s.1.toNat s.2) (fun s=>(n - s.1).toNat) (fun s=>F s.1.toNat s.2) (by
  rintro ⟨i,a⟩ ⟨⟨h0,hn⟩,hj⟩
  simp only at h0 hn hj
  obtain ⟨k,rfl⟩:=Int.eq_ofNat_of_zero_le h0
  simp only [Int.toNat_natCast] at hj ⊢
  rcases Nat.lt_or_ge k n with hk | hk
  ·rcases h1 k a hk hj with h | ⟨a',h,hj',he⟩
   ·exact .inl h
   ·exact .inr ⟨_,h,⟨⟨by simp only; omega,by simp only; omega⟩,by simpa using hj'⟩,by simp only; omega,by simpa using he⟩
  ·have:k=n:=by omega
   subst this
   exact .inl (h2 a hj)) (s:=(0,a)) ⟨⟨by simp,by simp⟩,by simpa using h0⟩
 simpa using this
theorem fC {A:Type}{ph:A × Int→List (Nat × AV)}{ob:A × Int→List Obj}{step:A × Int→Option (A × Int ⊕ β)} (n:Nat) (J:Nat→A→Prop) (F:Nat→A→β)
  (h1:∀ i a,i < n→J i a→step (a,(i:Int))=some (.inr (F i a)) ∨ ∃ a',step (a,(i:Int))=some (.inl (a',((i + 1:Nat):Int)))∧J (i + 1) a'∧F (i + 1) a'=F i a) (h2:∀ a,J n a→step (a,(n:Int))=some (.inr (F n a))) {a:A} (h0:J 0 a):bQ ph ob step (a,0)=some (F 0 a):=by
 have:=dZ (ph:=ph) (ob:=ob) (step:=step) (fun s:A × Int=>(0≤s.2∧s.2≤n)∧J s.2.toNat s.1) (fun s=>(n - s.2).toNat) (fun s=>F s.2.toNat s.1) (by
  rintro ⟨a,i⟩ ⟨⟨h0,hn⟩,hj⟩
  simp only at h0 hn hj
  obtain ⟨k,rfl⟩:=Int.eq_ofNat_of_zero_le h0
  simp only [Int.toNat_natCast] at hj ⊢
  rcases Nat.lt_or_ge k n with hk | hk
  ·rcases h1 k a hk hj with h | ⟨a',h,hj',he⟩
   ·exact .inl h
   ·exact .inr ⟨_,h,⟨⟨by simp only; omega,by simp only; omega⟩,by simpa using hj'⟩,by simp only; omega,by simpa using he⟩
  ·have:k=n:=by omega
   subst this
   exact .inl (h2 a hj)) (s:=(a,0)) ⟨⟨by simp,by simp⟩,by simpa using h0⟩
 simpa using this
end
theorem Og {s:Str}{k:Nat} (h:k < s.length):s[k]?=some (s.getD k 0):=by
 rw [List.getD_eq_getElem?_getD,List.getElem?_eq_getElem h]; rfl
theorem n5 (a b:Bool):(bif a then true else b)=(a || b):=by cases a <;> rfl
theorem iA (a b:Bool):(bif a then b else false)=(a && b):=by cases a <;> rfl
theorem jA (s:Str):fR s=some (cJ s):=by
 unfold fR
 simp only [aV,n5,iA]
 by_cases h:s.length < 1 ∨ 64 < s.length
 ·rw [show (decide ((s.length:Int) < 1) || decide ((64:Int) < s.length))=true from by simp; omega]
  simp [QW h]
 ·rw [show (decide ((s.length:Int) < 1) || decide ((64:Int) < s.length))=false from by simp; omega]
  simp only [bA]
  refine (dA s.length (fun i=>(List.range s.length).all fun j=>decide (j < i) || pK s j) ?_ ?_).trans ?_
  rotate_right
  ·congr 1
   rw [cJ,decide_eq_true (show 1≤s.length by omega),decide_eq_true (show s.length≤64 by omega)]
   simp
  ·intro i hi
   simp only [aO,a8 (Og hi)]
   rw [if_pos (by omega)]
   have e:((!((decide ((97:Int)≤((s.getD i 0).toNat:Int)) && decide (((s.getD i 0).toNat:Int)≤122) || (decide ((65:Int)≤((s.getD i 0).toNat:Int)) && decide (((s.getD i 0).toNat:Int)≤90))) || decide (((s.getD i 0).toNat:Int)=95))) && ((!(decide ((48:Int)≤((s.getD i 0).toNat:Int)) && decide (((s.getD i 0).toNat:Int)≤57))) || decide ((i:Int)=0)))=!pK s i:=by
    simp only [pK,pV,y7]
    rw [show decide ((i:Int)=0)=!decide (i ≠ 0) from by by_cases h:i=0 <;> simp [h]]
    simp [Bool.not_or,Bool.not_and]
   rw [e,bP]
   cases ho:pK s i
   ·left
    simp only [bA,bI,iP,Option.some.injEq,Sum.inr.injEq]
    symm
    rw [List.all_eq_false]
    exact ⟨i,List.mem_range.2 hi,by simp [ho]⟩
   ·right
    rw [bC (by omega)]
    refine ⟨by simp,?_⟩
    congr 1
    funext j
    by_cases hj:j=i
    ·subst hj; simp [ho]
    ·rw [show decide (j < i + 1)=decide (j < i) from by rw [decide_eq_decide]; omega]
  ·simp only [aO]
   rw [if_neg (by omega)]
   simp only [bI,iP,Option.some.injEq,Sum.inr.injEq]
   symm
   rw [List.all_eq_true]
   intro j hj
   rw [List.mem_range] at hj
   simp [hj]
theorem Er {n:Nat}{f:Nat→Bool}{i:Nat} (h:f i=true):((List.range n).all fun j=>decide (j < i + 1) || f j)=((List.range n).all fun j=>decide (j < i) || f j):=by
 congr 1
 funext j
 by_cases hj:j=i
 ·subst hj; simp [h]
 ·rw [show decide (j < i + 1)=decide (j < i) from by rw [decide_eq_decide]; omega]
theorem uW {n:Nat}{f:Nat→Bool}{i:Nat} (hi:i < n) (h:f i=false):((List.range n).all fun j=>decide (j < i) || f j)=false:=by
 rw [List.all_eq_false]; exact ⟨i,List.mem_range.2 hi,by simp [h]⟩
theorem I0 {n:Nat}{f:Nat→Bool}:((List.range n).all fun j=>decide (j < n) || f j)=true:=by
 rw [List.all_eq_true]; intro j hj; rw [List.mem_range] at hj; simp [hj]
theorem Gy {n:Nat}{f:Nat→Bool}:((List.range n).all fun j=>decide (j < 0) || f j)=(List.range n).all f:=by simp
theorem Kv (l:List aY):tU l=some (gZ l):=by
 unfold tU
 simp only [aV,aO]
 by_cases h:16 < l.length
 ·rw [if_pos (by omega),Rf h]; rfl
 ·rw [if_neg (by omega)]
  refine (dA l.length (fun i=>(List.range l.length).all fun j=>decide (j < i) || fT l j) ?_ ?_).trans ?_
  rotate_right
  ·rw [Gy,gZ,decide_eq_true (by omega)]; rfl
  ·intro i hi
   simp only [aO,a8 (gU hi),jA,aC,bP]
   rw [if_pos (by omega)]
   cases h1:cJ (pr l i).1
   ·left; simp [uW hi (show fT l i=false by simp [fT,h1])]
   ·simp only [aZ]
    by_cases h2:64 < (pr l i).2.length
    ·left; rw [if_pos (by omega)]
     simp [uW hi (show fT l i=false by simp [fT,h1]; omega)]
    ·rw [if_neg (by omega)]
     by_cases h3:i=0
     ·subst h3
      right
      rw [if_neg (by omega),bC (by omega)]
      exact ⟨by simp,Er (by simp [fT,h1]; omega)⟩
     ·rw [if_pos (by omega),bC (by omega),gL (x:=pr l (i - 1)) (by omega) (by rw [show ((i:Int) - 1).toNat=i - 1 from by omega]; exact gU (by omega))]
      cases h4:ltS (pr l (i - 1)).1 (pr l i).1
      ·left; simp [uW hi (show fT l i=false by simp [fT,h1,h3,h4]),h4]
      ·right
       rw [bC (by omega)]
       exact ⟨by simp,Er (by simp [fT,h1,h3,h4]; omega)⟩
  ·rw [if_neg (by omega)]
   simp [I0]
theorem VY (a b:Str):j5 a b=some (Jw a b):=by
 unfold j5 k8 Jw
 simp only [aV,bI,decide_true,Bool.not_true,aC,bA,UB,Bool.false_eq_true,if_false]
 split
 ·rfl
 ·split <;> rfl
theorem Hw (p q:aY):oW p q=some (Jw p.1 q.1):=by
 unfold oW; rw [VY]; rfl
theorem R3 (l:List aY) (h:l.length≤1000):gN l=some l:=by
 unfold gN
 simp only [eU,bI,List.nil_append,UI]
 rw [aM (by simp; omega)]
 unfold Mr
 rw [if_pos (by rintro rfl; rfl)]
def Dh (l:List aY):List (Str × Bool):=l.map fun p=>(p.1,true)
theorem Mh (n:Str):∀ l:List aY,(mlk (Dh l) n).getD false=l.any (fun q=>decide (q.1=n))
 | []=>rfl
 | p :: l=>by
  have ih:=Mh n l
  simp only [Dh,List.map_cons,mlk,List.any_cons] at ih ⊢
  by_cases h:n=p.1
  ·simp [h]
  ·have e:decide (p.Name=n)=false:=by simp; exact fun e=>h e.symm
   rw [if_neg h,ih,e,Bool.false_or]
theorem M9 {p:aY}:∀ {l:List aY},l.any (fun q=>decide (q.1=p.1))=false→mst (Dh l) p.1 true=Dh (l ++ [p])
 | [],_=>rfl
 | q :: l,h=>by
  simp only [List.any_cons,Bool.or_eq_false_iff,decide_eq_false_iff_not] at h
  have ih:=M9 (p:=p) h.2
  simp only [Dh,List.map_cons,mst,List.cons_append] at ih ⊢
  rw [if_neg (fun e=>h.1 e.symm),ih]
theorem KJ (l:List aY):sW l=some (g7 l):=by
 unfold sW
 simp only [aV,aO]
 by_cases h16:16 < l.length
 ·rw [if_pos (by omega),Mi (e:=4) (by rw [q7,if_pos h16]) (by decide)]; rfl
 rw [if_neg (by omega)]
 have fin:∀ (i:Nat),i≤l.length→True:=fun _ _=>trivial
 refine (dA l.length (fun i=>if (l.drop i).any r8 then ([],4) else if l.all (fun p=>cJ p.1) then (if mQ l then ([],6) else (pY l,0)) else ([],7)) ?_ ?_).trans ?_
 ·intro i hi
  simp only [aO,a8 (gU hi)]
  rw [if_pos (by omega),EX hi]
  by_cases ht:64 < (pr l i).2.length
  ·left; rw [if_pos (by omega)]; simp [r8,ht]
  ·right; rw [if_neg (by omega),bC (by omega)]
   refine ⟨by simp,?_⟩
   have:r8 (pr l i)=false:=by simp only [r8,decide_eq_false_iff_not]; omega
   simp [this]
 ·try simp only [aO]
  rw [if_neg (by omega)]
  simp only [List.drop_length,List.any_nil,Bool.false_eq_true,if_false]
  rw [dA l.length (fun i=>if (l.drop i).all (fun p=>cJ p.1) then (if mQ l then ([],6) else (pY l,0)) else ([],7)) ?_ ?_]
  ·rfl
  ·intro i hi
   simp only [aO,a8 (gU hi),jA,aC,bP]
   rw [if_pos (by omega),EX hi]
   cases hn:cJ (pr l i).1
   ·left; simp [hn]
   ·right; rw [bC (by omega)]
    exact ⟨by simp,by simp [hn]⟩
  ·try simp only [aO]
   rw [if_neg (by omega)]
   simp only [List.drop_length,List.all_nil,if_true,eU]
   rw [fC l.length (fun i m=>m=Dh (l.take i)∧∀ j,j < i→(l.take j).any (fun q=>decide (q.1=(pr l j).1))=false) (fun _ _=>if mQ l then ([],6) else (pY l,0)) ?_ ?_ ⟨by simp [Dh],fun j hj=>by omega⟩]
   ·rfl
   ·rintro i m hi ⟨rfl,hj⟩
    simp only [aO,a8 (gU hi),eU,Mh]
    rw [if_pos (by omega)]
    cases hs:(l.take i).any (fun q=>decide (q.1=(pr l i).1))
    ·right
     rw [bC (by omega),bA,M9 hs,← Ux hi]
     refine ⟨_,by simp,⟨rfl,fun j hj'=>?_⟩,trivial⟩
     by_cases e:j=i
     ·subst e; exact hs
     ·exact hj j (by omega)
    ·left
     rw [Qk hi hs]
     rfl
   ·rintro m ⟨rfl,hj⟩
    simp only [aO,Q7,Sz]
    rw [if_neg (by omega),R3 l (by omega),aC]
    have htw:mQ l=false:=Qj hj
    rw [Ss (y:=(pY l,0)) (fun p q=>Jw p.1 q.1) ⟨fun p _ q _=>Hw p q,fun p _=>by rw [CG,C7]; simp,fun p _ q _ r _ h1 h2=>by rw [CG] at *; exact v8 h1 h2,fun p _ q _ r _ h1 h2=>by rw [CG] at *; rw [Bool.not_eq_true] at *; exact Qo h1 h2,by omega⟩ ?_]
    ·simp [htw]
    ·intro l' hp hs
     rw [MX htw hp (hs.imp fun {a b} hab=>by rw [CG] at hab; simpa using hab)]
     rfl
 ·simp only [List.drop_zero,g7,q7,h16,if_false,Option.some.injEq]
  split
  ·rfl
  ·split
   ·split <;> simp
   ·simp
theorem K9 (l:List aY) (h:l.length≤9223372036854775807):vZ l=some (Lo l):=by
 unfold vZ
 simp only [aV]
 refine (fC l.length (fun i a=>a=Sq l i) (fun _ _=>Lo l) ?_ ?_ rfl).trans rfl
 ·rintro i a hi rfl
  right
  simp only [aO,a8 (gU hi)]
  rw [if_pos (by omega),bC (x:=(i:Int) + 1) (by omega)]
  exact ⟨_,by simp; rfl,rfl,trivial⟩
 ·rintro a rfl
  simp only [aO,iA]
  rw [if_neg (by omega),Lo,show decide ((l.length:Int)≤40)=decide (l.length≤40) from by rw [decide_eq_decide]; omega]
  rfl
theorem HP (c:Int):oY c=some (pV c):=by
 unfold oY pV
 simp only [aV,n5,iA,bI]
theorem oB (s:Str) (h:s.length≤9223372036854775807):jO s=some (cJ s):=by
 unfold jO
 simp only [aV]
 refine (dA s.length (fun i=>(((List.range s.length).all fun j=>decide (j < i) || pK s j) && (decide (1≤s.length) && decide (s.length≤64)))) ?_ ?_).trans ?_
 ·intro i hi
  simp only [aO,a8 (Og hi),HP,aC,bP,n5,iA,Bool.true_or,Bool.false_or,Bool.and_false,Bool.and_true]
  rw [if_pos (by omega),bC (by omega)]
  have key:pK s i=(pV ((s.getD i 0).toNat:Int) || (y7 ((s.getD i 0).toNat:Int) && decide (i ≠ 0))):=rfl
  generalize s.getD i 0=c at key ⊢
  have bad:pK s i=false→∀ b:Bool,false=(((List.range s.length).all fun j=>decide (j < i) || pK s j) && b):=fun h b=>by rw [uW hi h]; rfl
  have good:pK s i=true→∀ b:Bool,(((List.range s.length).all fun j=>decide (j < i + 1) || pK s j) && b)=(((List.range s.length).all fun j=>decide (j < i) || pK s j) && b):=fun h b=>by rw [Er h]
  cases h1:pV (c.toNat:Int)
  ·simp only [bA]
   by_cases h0:i=0
   ·left
    rw [if_pos (by omega)]
    simp only [aZ,bI,iP,Option.some.injEq,Sum.inr.injEq]
    exact bad (by rw [key,h1,h0]; simp) _
   ·rw [if_neg (by omega)]
    by_cases h2:(c.toNat:Int) < 48
    ·left; rw [if_pos h2]
     simp only [aZ,bI,iP,Option.some.injEq,Sum.inr.injEq]
     exact bad (by rw [key,h1,y7,decide_eq_false (by omega)]; simp) _
    ·rw [if_neg h2]
     by_cases h3:57 < (c.toNat:Int)
     ·left; rw [if_pos h3]
      simp only [bI,iP,Option.some.injEq,Sum.inr.injEq]
      exact bad (by rw [key,h1,y7,decide_eq_false (show ¬ (c.toNat:Int)≤57 by omega)]; simp) _
     ·right; rw [if_neg h3]
      exact ⟨by simp,good (by rw [key,h1,y7,decide_eq_true (show (48:Int)≤(c.toNat:Int) by omega),decide_eq_true (show (c.toNat:Int)≤57 by omega)]; simp [h0]) _⟩
  ·right
   simp only [aZ]
   exact ⟨by simp,good (by rw [key,h1]; simp) _⟩
 ·simp only [aO]
  rw [if_neg (by omega)]
  simp only [iA,bI,iP,I0,Bool.true_and]
  rw [show decide ((1:Int)≤(s.length:Int))=decide (1≤s.length) from by rw [decide_eq_decide]; omega,show decide ((s.length:Int)≤64)=decide (s.length≤64) from by rw [decide_eq_decide]; omega]
 ·rw [Gy,cJ,Bool.and_comm]
theorem KB (l:List aY) (h:l.length≤9223372036854775807) (hs:∀ p ∈ l,p.1.length≤9223372036854775807):tP l=some (gZ l):=by
 unfold tP
 simp only [aV]
 refine (dA l.length (fun i=>(((List.range l.length).all fun j=>decide (j < i) || fT l j) && decide (l.length≤16))) ?_ ?_).trans ?_
 ·intro i hi
  have hn:jO (pr l i).1=some (cJ (pr l i).1):=oB _ (hs _ (List.mem_of_getElem? (gU hi)))
  simp only [aO,a8 (gU hi),hn,aC,bP,eC,n5,iA,Bool.true_and,Bool.false_and]
  rw [if_pos (by omega),bC (x:=(i:Int) + 1) (by omega)]
  cases h1:cJ (pr l i).1
  ·left; simp [uW hi (show fT l i=false by simp [fT,h1])]
  ·simp only [aZ]
   by_cases h2:64 < (pr l i).2.length
   ·left; rw [if_pos (by omega)]
    simp [uW hi (show fT l i=false by simp [fT,h1]; omega)]
   ·rw [if_neg (by omega)]
    by_cases h3:i=0
    ·subst h3
     right
     rw [if_neg (by omega)]
     exact ⟨by simp,by rw [Er (show fT l 0=true by simp [fT,h1]; omega)]⟩
    ·rw [if_pos (by omega),bC (by omega),gL (x:=pr l (i - 1)) (by omega) (by rw [show ((i:Int) - 1).toNat=i - 1 from by omega]; exact gU (by omega))]
     cases h4:ltS (pr l (i - 1)).1 (pr l i).1
     ·left; simp [uW hi (show fT l i=false by simp [fT,h1,h3,h4]),h4]
     ·right
      exact ⟨by simp,by rw [Er (show fT l i=true by simp [fT,h1,h3,h4]; omega)]⟩
 ·simp only [aO]
  rw [if_neg (by omega)]
  simp only [bI,iP,I0,Bool.true_and]
  rw [show decide ((l.length:Int)≤16)=decide (l.length≤16) from by rw [decide_eq_decide]; omega]
 ·rw [Gy,gZ,Bool.and_comm]
def Sml (l:List aY):Prop:=l.length≤100000000∧∀ p ∈ l,p.1.length≤9223372036854775807
theorem Sml.len {l:List aY} (h:Sml l):l.length≤9223372036854775807:=by have:=h.1; omega
end Go.Proofs.YthgenmkengbmmaaGreatDoor.AM
namespace Go.Proofs.YthgenmkengbmmaaGreatDoor.AM

open Go
end Go.Proofs.YthgenmkengbmmaaGreatDoor.AM
namespace Go.Proofs.YthgenmkengbmmaaGreatDoor.AM
open Go
theorem yA {σ β:Type}{ph:σ→List (Nat × AV)}{ob:σ→List Obj}{step:σ→Option (σ ⊕ β)} (I:σ→Prop) (μ:σ→Nat) (Q:β→Prop)
  (h:∀ s,I s→(∃ r,step s=some (.inr r)∧Q r) ∨ ∃ s',step s=some (.inl s')∧I s'∧μ s' < μ s):∀ {s:σ},I s→∃ r,bQ ph ob step s=some r∧Q r:=by
 have key:∀ n s,μ s=n→I s→∃ r,bQ ph ob step s=some r∧Q r:=by
  intro n
  induction n using Nat.strongRecOn with
  | ind n ih=>
   intro s hn hs
   unfold bQ
   rw [Bt]
   rcases h s hs with ⟨r,e,hq⟩ | ⟨s',e,hi,hm⟩
   ·exact ⟨r,by rw [e]; rfl,hq⟩
   ·obtain ⟨r,e2,hq⟩:=ih (μ s') (by omega) s' rfl hi
    exact ⟨r,by rw [e]; exact e2,hq⟩
 intro s hs
 exact key _ s rfl hs
section
variable {α:Type} [Inhabited α]
def nth (l:List α) (k:Nat):α:=l.getD k default
theorem bJ {l:List α}{k:Nat} (h:k < l.length):l[k]?=some (nth l k):=by
 rw [nth,List.getD_eq_getElem?_getD,List.getElem?_eq_getElem h]; rfl
theorem dV {l:List α}{k:Nat} (h:k < l.length):nth l k ∈ l:=by
 rw [nth,List.getD_eq_getElem?_getD,List.getElem?_eq_getElem h]; exact List.getElem_mem h
theorem dI {l:List α}{k:Nat} (hk:k < l.length):l.drop k=nth l k :: l.drop (k + 1):=by
 have hp:=bJ hk
 rw [List.drop_eq_getElem_cons hk]
 congr 1
 rw [List.getElem?_eq_getElem hk] at hp
 exact Option.some.inj hp
end
def oK (v:Int):Bool:=decide (-9007199254740992≤v) && decide (v≤9007199254740992)
theorem Bn (v:Int):pG v=some (oK v):=by
 unfold pG
 simp only [aV,iA]; try rfl
def tmB (x:Int):Bool:=decide (0≤x) && decide (x≤9007199254740992)
theorem m7 {x:Int}:tmB x=true ↔ 0≤x∧x≤9007199254740992:=by simp [tmB]
theorem nE {x:Int}:oK x=true ↔ -9007199254740992≤x∧x≤9007199254740992:=by simp [oK]
def nmL:Str:=[95,95,110,97,109,101,95,95]
def anL:Str:=[97,108,101,114,116,110,97,109,101]
def asL:Str:=[97,108,101,114,116,115,116,97,116,101]
def mOk (m:bS):Bool:=cJ m.Name && decide (m.Value.length≤64)
def kD (s:cT):Bool:=cJ s.Name && decide (s.M.length≤8) && s.M.all mOk
theorem FX (s:cT):uN s=some (kD s):=by
 unfold uN kD
 simp only [jA,aC,aV,bP,aO]
 cases cJ s.Name
 ·rfl
 simp only [aZ,Bool.true_and]
 by_cases h:8 < s.M.length
 ·rw [if_pos (by omega),decide_eq_false (by omega)]; rfl
 rw [if_neg (by omega),decide_eq_true (show s.M.length≤8 by omega),Bool.true_and]
 refine (dA s.M.length (fun i=>(s.M.drop i).all mOk) ?_ ?_).trans (by simp)
 ·intro i hi
  simp only [aO,a8 (bJ hi)]
  rw [if_pos (by omega),dI hi,List.all_cons]
  cases h1:cJ (nth s.M i).Name
  ·left; simp [mOk,h1]
  ·simp only [aZ]
   by_cases h2:64 < (nth s.M i).Value.length
   ·left; rw [if_pos (by omega)]; simp [mOk,show ¬ (nth s.M i).Value.length≤64 from by omega]
   ·right; rw [if_neg (by omega),bC (by omega)]
    exact ⟨by simp,by simp [mOk,h1]; omega⟩
 ·try simp only [aO]
  rw [if_neg (by omega)]
  simp
def iJ (e:cG):Bool:=kD e.S && (decide (1≤e.Op) && decide (e.Op≤6)) && oK e.V
theorem DW (e:cG):sK e=some (iJ e):=by
 unfold sK pA iJ
 simp only [FX,aC,aV,Bn,iA,bI]
 cases kD e.S
 ·rfl
 cases (decide (1≤e.Op) && decide (e.Op≤6)) <;> rfl
theorem vA (v:Int):nM v=some (tmB v):=by
 unfold nM
 simp only [aV,iA]; try rfl
def tV (n:Str):Bool:=decide (n=nmL) || decide (n=anL) || decide (n=asL)
theorem Gw (n:Str):oA n=some (tV n):=by
 unfold oA tV
 simp only [aV,n5,bI]; try rfl
theorem y4 (l:List aY) (h:l.length≤100000000):lQ l=some (l.any fun p=>tV p.1):=by
 unfold lQ
 simp only [aV]
 refine (dA l.length (fun i=>(l.drop i).any fun p=>tV p.1) ?_ ?_).trans (by simp)
 ·intro i hi
  simp only [aO,a8 (gU hi),Gw,aC]
  rw [if_pos (by omega),EX hi,List.any_cons]
  cases h1:tV (pr l i).1
  ·right; rw [bC (by omega)]; exact ⟨by simp,by simp⟩
  ·left; simp
 ·try simp only [aO]
  rw [if_neg (by omega)]
  simp
def eB (r:a6):Bool:=cJ r.Name && iJ r.E && tmB r.For && tmB r.Keep && gZ r.Labels && !r.Labels.any fun p=>tV p.1
theorem Es (r:a6):sH r=some (eB r):=by
 unfold sH eB
 simp only [jA,aC,aV,DW,vA,Kv,bI]
 cases cJ r.Name
 ·rfl
 cases iJ r.E
 ·rfl
 cases tmB r.For
 ·rfl
 cases tmB r.Keep
 ·rfl
 cases h:gZ r.Labels
 ·rfl
 simp only [aZ]
 rw [y4 _ (by have:=(wD.1 h).1; omega)]
 rfl
def L8 (s:cT):Prop:=s.Name.length≤9223372036854775807∧s.M.length≤9223372036854775807∧∀ m ∈ s.M,m.Name.length≤9223372036854775807
def MB (r:a6):Prop:=r.Name.length≤9223372036854775807∧L8 r.E.S∧Sml r.Labels
theorem Dx (s:cT) (h:L8 s):qB s=some (kD s):=by
 obtain ⟨h1,h2,h3⟩:=h
 unfold qB
 simp only [aV]
 refine (dA s.M.length (fun i=>(s.M.drop i).all mOk && (cJ s.Name && decide (s.M.length≤8))) ?_ ?_).trans ?_
 ·intro i hi
  simp only [aO,a8 (bJ hi),bP,oB _ (h3 _ (dV hi)),aC]
  rw [if_pos (by omega),dI hi,List.all_cons]
  cases h4:cJ (nth s.M i).Name
  ·left; simp [mOk,h4]
  ·simp only [aZ]
   by_cases h5:64 < (nth s.M i).Value.length
   ·left; rw [if_pos (by omega)]; simp [mOk,show ¬ (nth s.M i).Value.length≤64 from by omega]
   ·right; rw [if_neg (by omega),bC (by omega)]
    exact ⟨by simp,by simp [mOk,h4,show (nth s.M i).Value.length≤64 from by omega]⟩
 ·simp only [aO]
  rw [if_neg (by omega),oB _ h1,aC]
  cases cJ s.Name
  ·simp
  ·simp only [aZ,bI,iP,List.drop_length,List.all_nil,Bool.true_and]
   rw [show decide ((s.M.length:Int)≤8)=decide (s.M.length≤8) from by rw [decide_eq_decide]; omega]
 ·unfold kD
  rw [List.drop_zero,Bool.and_comm]
theorem rF (v:Int):p6 v=some (oK v):=by
 unfold p6
 simp only [aV,iA]; try rfl
theorem wZ (v:Int):l9 v=some (tmB v):=by
 unfold l9
 simp only [aV,iA]; try rfl
theorem DF (e:cG) (h:L8 e.S):pP e=some (iJ e):=by
 unfold pP iJ
 simp only [Dx _ h,aC,aV,rF,bI]
 cases kD e.S
 ·rfl
 cases decide (1≤e.Op)
 ·rfl
 cases decide (e.Op≤6) <;> rfl
theorem Fh (n:Str):mS n=some (tV n):=by
 unfold mS tV
 simp only [aV,n5,bI]; try rfl
theorem Ki (l:List aY) (h:l.length≤100000000):tT l=some (!l.any fun p=>tV p.1):=by
 unfold tT
 simp only [aV]
 refine (dA l.length (fun i=>!(l.drop i).any fun p=>tV p.1) ?_ ?_).trans (by simp)
 ·intro i hi
  simp only [aO,a8 (gU hi),Fh,aC]
  rw [if_pos (by omega),EX hi,List.any_cons]
  cases h1:tV (pr l i).1
  ·right; rw [bC (by omega)]; exact ⟨by simp,by simp⟩
  ·left; simp
 ·try simp only [aO]
  rw [if_neg (by omega)]
  simp
theorem DA (r:a6) (h:MB r):pT r=some (eB r):=by
 obtain ⟨h1,h2,h3⟩:=h
 unfold pT eB
 simp only [oB _ h1,aC,DF _ h2,wZ,KB _ h3.len h3.2,Ki _ h3.1,bI]
 cases cJ r.Name
 ·rfl
 cases iJ r.E
 ·rfl
 cases tmB r.For
 ·rfl
 cases tmB r.Keep
 ·rfl
 cases gZ r.Labels <;> rfl
def eI (c:UInt8):Str:=if c=92 then [92,92] else if c=34 then [92,34] else if c=10 then [92,110] else [c]
def dC (s:Str):Str:=34 :: (s.flatMap eI ++ [34])
theorem gW (c:UInt8) (k:Nat) (hk:k < 256):((c.toNat:Int)=(k:Int)) ↔ c=UInt8.ofNat k:=by
 constructor
 ·intro h
  have h:c.toNat=k:=by omega
  rw [← h]; simp
 ·rintro rfl
  simp [Nat.mod_eq_of_lt hk]
theorem Bq (c:UInt8) (k:Nat) (hk:k < 256):decide ((c.toNat:Int)=(k:Int))=decide (c=UInt8.ofNat k):=by
 rw [decide_eq_decide]; exact gW c k hk
theorem Gi (c:UInt8):1≤(eI c).length∧(eI c).length≤2:=by
 unfold eI
 repeat' split
 all_goals simp
theorem JX (c:UInt8):eO [(c.toNat:Int)]=[c]:=by simp [eO]
theorem AF (s:Str):(dC s).length≤2 * s.length + 2:=by
 have:(s.flatMap eI).length≤2 * s.length:=by
  induction s with
  | nil=>simp
  | cons c s ih=>
   rw [List.flatMap_cons,List.length_append,List.length_cons]
   have:=(Gi c).2
   omega
 simp only [dC,List.length_cons,List.length_append,List.length_nil]; omega
theorem Mp (c:UInt8):(if ((c.toNat:Int)=92) then eO [(92:Int),(c.toNat:Int)] else if ((c.toNat:Int)=34) then eO [(92:Int),(c.toNat:Int)] else if ((c.toNat:Int)=10) then eO [(92:Int),(110:Int)] else eO [(c.toNat:Int)])=eI c:=by
 unfold eI
 have h1:=gW c 92 (by decide)
 have h2:=gW c 34 (by decide)
 have h3:=gW c 10 (by decide)
 simp only [Int.cast_ofNat_Int] at h1 h2 h3
 by_cases k1:c=92
 ·subst k1; rfl
 rw [if_neg (fun h=>k1 (h1.1 h)),if_neg k1]
 by_cases k2:c=34
 ·subst k2; rfl
 rw [if_neg (fun h=>k2 (h2.1 h)),if_neg k2]
 by_cases k3:c=10
 ·subst k3; rfl
 rw [if_neg (fun h=>k3 (h3.1 h)),if_neg k3]
 exact JX c
theorem DX (s:Str) (h:s.length≤100000000):kV s=some (dC s):=by
 unfold kV
 simp only [eU,aV]
 refine (fC s.length (fun i a=>a.length≤1 + 2 * i) (fun i a=>eO a ++ (s.drop i).flatMap eI ++ [34]) ?_ ?_ (by simp)).trans (by simp [dC,eO])
 ·intro i a hi ha
  right
  simp only [aO,a8 (bJ hi)]
  rw [if_pos (by omega),dI hi,bC (by omega)]
  simp only [List.flatMap_cons]
  rw [← Mp (nth s i)]
  by_cases k1:((nth s i).toNat:Int)=92
  ·rw [if_pos k1,if_pos k1,aM (by simp; omega)]
   exact ⟨_,rfl,by simp; omega,by simp [eL]⟩
  rw [if_neg k1,if_neg k1]
  by_cases k2:((nth s i).toNat:Int)=34
  ·rw [if_pos k2,if_pos k2,aM (by simp; omega)]
   exact ⟨_,rfl,by simp; omega,by simp [eL]⟩
  rw [if_neg k2,if_neg k2]
  by_cases k3:((nth s i).toNat:Int)=10
  ·rw [if_pos k3,if_pos k3,aM (by simp; omega)]
   exact ⟨_,rfl,by simp; omega,by simp [eL]⟩
  rw [if_neg k3,if_neg k3,aM (by simp; omega)]
  exact ⟨_,rfl,by simp; omega,by simp [eL]⟩
 ·intro a ha
  simp only [aO]
  rw [if_neg (by omega),aM (by simp; omega)]
  simp [eL,eO]
theorem BB (s:Str) (h:s.length≤100000000):iL s=some (dC s):=by
 unfold iL
 simp only [eU,aV]
 refine (fC s.length (fun i a=>a.length≤1 + 2 * i) (fun i a=>eO a ++ (s.drop i).flatMap eI ++ [34]) ?_ ?_ (by simp)).trans (by simp [dC,eO])
 ·intro i a hi ha
  right
  simp only [aO,a8 (bJ hi)]
  rw [if_pos (by omega),dI hi,bC (by omega)]
  simp only [List.flatMap_cons]
  rw [← Mp (nth s i)]
  by_cases k1:((nth s i).toNat:Int)=92
  ·rw [if_pos k1,if_pos k1,aM (by simp; omega)]
   exact ⟨_,rfl,by simp; omega,by simp [eL]⟩
  rw [if_neg k1,if_neg k1]
  by_cases k2:((nth s i).toNat:Int)=34
  ·rw [if_pos k2,if_pos k2,aM (by simp; omega)]
   exact ⟨_,rfl,by simp; omega,by simp [eL]⟩
  rw [if_neg k2,if_neg k2]
  by_cases k3:((nth s i).toNat:Int)=10
  ·rw [if_pos k3,if_pos k3,aM (by simp; omega)]
   exact ⟨_,rfl,by simp; omega,by simp [eL]⟩
  rw [if_neg k3,if_neg k3,aM (by simp; omega)]
  exact ⟨_,rfl,by simp; omega,by simp [eL]⟩
 ·intro a ha
  simp only [aO]
  rw [if_neg (by omega),aM (by simp [eO]; omega)]
  simp [eO]
theorem Qt (s:Str) (k:Nat) (h:k < s.length):(bs s).get! k=nth s k:=QX s (bJ h)
theorem Pa (s:Str) (k:Nat) (h:k < s.length) (hc:(nth s k).toNat < 128):Utf8.decode (bs s) k=((nth s k).toNat,1):=by
 unfold Utf8.decode
 simp only [Nat.add_zero,Qt s k h]
 rw [if_pos hc]
theorem NH (s:Str) (k:Nat) (h:k < s.length) (hc:128≤(nth s k).toNat):128≤(Utf8.decode (bs s) k).1:=by
 unfold Utf8.decode
 simp only [Nat.add_zero,Qt s k h]
 rw [if_neg (by omega)]
 split
 ·(try dsimp only)
  split
  ·assumption
  ·decide
 ·split
  ·(try dsimp only)
   split
   ·rename_i h1
    simp only [Bool.and_eq_true,decide_eq_true_eq,ge_iff_le] at h1
    have:=h1.1; omega
   ·decide
  ·split
   ·(try dsimp only)
    split
    ·rename_i h1
     simp only [Bool.and_eq_true,decide_eq_true_eq,ge_iff_le] at h1
     have:=h1.1; omega
    ·decide
   ·decide
theorem SV {β:Type} (s:Str) (k:Nat) (f:Int→Nat→Option β) (g:Option β) (h:s.length≤k):Cw s k f g=g:=by
 unfold Cw; rw [if_neg (by omega)]
theorem SM {β:Type} (s:Str) (k:Nat) (f:Int→Nat→Option β) (g:Option β) (h:k < s.length) (hc:(nth s k).toNat < 128):Cw s k f g=f ((nth s k).toNat:Int) (k + 1):=by
 unfold Cw Ht; rw [if_pos h,Pa s k h hc]
theorem QS {β:Type} (s:Str) (k:Nat) (f:Int→Nat→Option β) (g:Option β) (h:k < s.length) (hc:128≤(nth s k).toNat):∃ r w,128≤r∧Cw s k f g=f r w:=by
 unfold Cw Ht
 rw [if_pos h]
 exact ⟨_,_,by have:=NH s k h hc; omega,rfl⟩
def pX (v d:Int):Int:=min (v * 10 + d) 9007199254740993
theorem Fu (v d:Int) (h:0≤v∧v≤9007199254740993) (hd:0≤d∧d≤9):rO v d=some (pX v d):=by
 unfold rO pX
 simp only [aV,bI]
 rw [bC (show -9223372036854775808≤v * 10∧v * 10≤9223372036854775807 by omega),bC (by omega)]
theorem Gp {v d:Int} (h:0≤v∧v≤9007199254740993) (hd:0≤d∧d≤9):0≤pX v d∧pX v d≤9007199254740993:=by
 unfold pX; omega
def oU:Str→Int→Int→Int→Bool→Option (Int × Int × Int × Bool)
 | [],v,w,p,b=>some (v,w,p,b)
 | c :: s,v,w,p,b=>
  if c=46∧b=false∧0 < w then oU s v w p true
  else if c.toNat < 48 ∨ 57 < c.toNat then none
  else if b=true then oU s (pX v (c.toNat - 48:Int)) w (p + 1) true
  else oU s (pX v (c.toNat - 48:Int)) (w + 1) p false
theorem p7 (c:UInt8) (s:Str) (v w p:Int) (b:Bool):oU (c :: s) v w p b=if c=46∧b=false∧0 < w then oU s v w p true
  else if c.toNat < 48 ∨ 57 < c.toNat then none
  else if b=true then oU s (pX v (c.toNat - 48:Int)) w (p + 1) true
  else oU s (pX v (c.toNat - 48:Int)) (w + 1) p false:=rfl
theorem Ew (v w p:Int) (b:Bool):oU [] v w p b=some (v,w,p,b):=rfl
def uV:Nat→Int→Int
 | 0,v=>v
 | n + 1,v=>uV n (pX v 0)
def DT (below:Bool):Option (Int × Int × Int × Bool)→Int × Int
 | none=>(0,1)
 | some (v,w,p,b)=>if w=0 ∨ 3 < p ∨ (b=true∧p=0) then (0,1) else if oK (uV (3 - p).toNat v) then (if below then -uV (3 - p).toNat v else uV (3 - p).toNat v,0) else (0,2)
def kN (s:Str):Str × Bool:=match s with | 45 :: t=>(t,true) | _=>(s,false)
def Pn (s:Str):Int × Int:=DT (kN s).2 (oU (kN s).1 0 0 0 false)
theorem El (s p:Str) (h:s.length≤9223372036854775807):fU s p=some (decide (s.take p.length=p)):=by
 unfold fU
 simp only [aV,aO,bI]
 by_cases h1:p.length≤s.length
 ·rw [if_pos (by omega),aM (by omega)]
  simp
 ·rw [if_neg (by omega)]
  congr 1; symm
  rw [decide_eq_false_iff_not]
  intro h2
  have:=congrArg List.length h2
  rw [List.length_take] at this; omega
theorem Ll (s:Str) (h:s.length≤9223372036854775807):kJ s [45]=some (kN s):=by
 unfold kJ j6
 rw [El s _ h]
 simp only [aC,aV,bP,aO,bI]
 match s with
 | []=>rfl
 | c :: t=>
  unfold kN
  by_cases hc:c=45
  ·subst hc
   simp only [List.length_cons,List.length_nil] at *
   rw [if_pos (by simp),aM (by omega)]
   simp
  ·rw [if_neg (by simpa using hc)]
   simp only [aC]
   split
   ·rename_i h1; cases h1; exact absurd rfl hc
   ·rfl
theorem YD {x:Int} (h:0≤x∧x≤9):IntKind.i32.wrap x=x:=by
 obtain ⟨h1,h2⟩:=h
 have:x=0 ∨ x=1 ∨ x=2 ∨ x=3 ∨ x=4 ∨ x=5 ∨ x=6 ∨ x=7 ∨ x=8 ∨ x=9:=by omega
 rcases this with rfl | rfl | rfl | rfl | rfl | rfl | rfl | rfl | rfl | rfl <;> decide
theorem SI {ph:Int × Int→List (Nat × AV)}{ob:Int × Int→List Obj}{β:Type} (fin:Int→Option β) (n:Nat) (hn:n≤3) (G:Int→β)
  (hG:∀ v,0≤v∧v≤9007199254740993→fin v=some (G v)) (v:Int) (hv:0≤v∧v≤9007199254740993) :
  bQ ph ob (fun (x25:Int × Int)=>if x25.2 < (n:Int) then aJ vI (fun _=>[]) (rO x25.1 0) fun x27=>aW (x27,wI (x25.2 + 1)) else aQ (fin x25.1)) (v,0)=some (G (uV n v)):=by
 refine (fC n (fun i a=>0≤a∧a≤9007199254740993) (fun i a=>G (uV (n - i) a)) ?_ ?_ hv).trans (by simp)
 ·intro i a hi ha
  right
  rw [if_pos (by simp only; omega)]
  simp only []
  rw [Fu _ _ ha (by omega),aC,bC (by omega)]
  refine ⟨pX a 0,by simp,Gp ha (by omega),?_⟩
  rw [show n - i=(n - (i + 1)) + 1 by omega]; rfl
 ·intro a ha
  rw [if_neg (by simp only; omega)]
  simp only []
  rw [hG a ha]
  simp [uV]
theorem M5 (s:Str) (h:s.length≤100000000):wF s=some (Pn s):=by
 unfold wF
 rw [Ll s (by omega),aC]
 have ht:(kN s).1.length≤100000000:=by
  unfold kN; split
  ·simp at h; simp; omega
  ·exact h
 unfold Pn
 generalize kN s=cb at *
 obtain ⟨t,below⟩:=cb
 simp only at ht ⊢
 simp only [aV]
 refine dZ (fun x:Nat × Int × Int × Int × Bool=>x.1≤t.length∧(0≤x.2.1∧x.2.1≤9007199254740993)∧(0≤x.2.2.1∧x.2.2.1≤x.1)∧(0≤x.2.2.2.1∧x.2.2.2.1≤x.1)) (fun x=>t.length - x.1)
  (fun x=>DT below (oU (t.drop x.1) x.2.1 x.2.2.1 x.2.2.2.1 x.2.2.2.2)) ?_ (by simp)
 rintro ⟨k,v,w,p,b⟩ ⟨hk,hv,hw,hp⟩
 simp only at hk hv hw hp ⊢
 rcases Nat.lt_or_ge k t.length with hkt | hkt
 ·rw [dI hkt]
  rcases Nat.lt_or_ge (nth t k).toNat 128 with hc | hc
  ·rw [SM _ _ _ _ hkt hc,p7]
   rw [show (bif bif decide (((nth t k).toNat:Int)=46) then !b else false then decide (0 < w) else false)=decide (nth t k=46∧b=false∧0 < w) from by
    have:=Bq (nth t k) 46 (by decide)
    simp only [Int.cast_ofNat_Int] at this
    rw [this]
    by_cases h1:nth t k=46 <;> by_cases h2:0 < w <;> cases b <;> simp [h1,h2]]
   simp only [aO]
   by_cases hpt:nth t k=46∧b=false∧0 < w
   ·rw [if_pos hpt,if_pos hpt]
    right
    exact ⟨(k + 1,v,w,p,true),rfl,⟨by simp only; omega,hv,by simp only; omega,by simp only; omega⟩,by simp only; omega,rfl⟩
   rw [if_neg hpt,if_neg hpt]
   rw [show (bif decide (((nth t k).toNat:Int) < 48) then true else decide ((57:Int) < ((nth t k).toNat:Int)))=decide ((nth t k).toNat < 48 ∨ 57 < (nth t k).toNat) from by
    by_cases h1:(nth t k).toNat < 48 <;> by_cases h2:57 < (nth t k).toNat <;> simp [h1,h2] <;> omega]
   simp only [aO]
   by_cases hbad:(nth t k).toNat < 48 ∨ 57 < (nth t k).toNat
   ·rw [if_pos hbad,if_pos hbad]
    left; rfl
   rw [if_neg hbad,if_neg hbad]
   rw [YD (by omega),bC (by omega),Fu _ _ hv (by omega),aC]
   right
   cases b
   ·simp only [bA]
    rw [bC (by omega),if_neg (by simp)]
    exact ⟨(k + 1,_,w + 1,p,false),rfl,⟨by simp only; omega,Gp hv (by omega),by simp only; omega,by simp only; omega⟩,by simp only; omega,rfl⟩
   ·simp only [aZ,if_true]
    rw [bC (by omega)]
    exact ⟨(k + 1,_,w,p + 1,true),rfl,⟨by simp only; omega,Gp hv (by omega),by simp only; omega,by simp only; omega⟩,by simp only; omega,rfl⟩
  ·obtain ⟨r,wd,hr,e⟩:=QS t k _ _ hkt hc
   left
   rw [e]
   rw [show decide (r=46)=false from by simp; omega]
   rw [show decide (r < 48)=false from by simp; omega,show decide ((57:Int) < r)=true from by simp; omega]
   rw [p7,if_neg (by rintro ⟨h1,_⟩; rw [h1] at hc; revert hc; decide),if_pos (by omega)]
   rfl
 ·left
  rw [SV _ _ _ _ hkt,List.drop_eq_nil_of_le hkt]
  rw [Ew]
  unfold DT
  rw [show (bif bif decide (w=0) then true else decide (3 < p) then true else bif b then decide (p=0) else false)=decide (w=0 ∨ 3 < p ∨ (b=true∧p=0)) from by
   by_cases h1:w=0 <;> by_cases h2:3 < p <;> by_cases h3:p=0 <;> cases b <;> simp [h1,h2,h3]]
  simp only [aO]
  by_cases hbad:w=0 ∨ 3 < p ∨ (b=true∧p=0)
  ·rw [if_pos hbad,if_pos hbad]; rfl
  rw [if_neg hbad,if_neg hbad]
  rw [bC (by omega)]
  obtain ⟨n,hn⟩:=Int.eq_ofNat_of_zero_le (show 0≤3 - p by omega)
  rw [hn,Int.toNat_natCast]
  rw [SI (fun v=>aJ vB (fun _=>[]) (pG v) fun x29=>aF (!x29) (aG (0,2)) (aF below (aG (wI (0 - v),0)) (aG (v,0)))) n (by omega) (fun v=>if oK v then (if below then -v else v,0) else (0,2)) ?_ v hv]
  ·rfl
  ·intro v hv
   rw [Bn,aC,bP]
   cases oK v
   ·rfl
   ·cases below
    ·rfl
    ·simp only [aZ]
     rw [bC (by omega)]
     simp
def isD (c:UInt8):Bool:=decide (48≤c.toNat) && decide (c.toNat≤57)
theorem oG {c:UInt8}:isD c=true ↔ 48≤c.toNat∧c.toNat≤57:=by simp [isD]
theorem JJ {c:UInt8}:isD c=false ↔ c.toNat < 48 ∨ 57 < c.toNat:=by
 rw [Bool.eq_false_iff,Ne,oG]; omega
def u0 (v:Int) (c:UInt8):Int:=v * 10 + (c.toNat - 48:Int)
def Cv (cap v:Int) (c:UInt8):Int:=min (u0 v c) cap
def nF (l:Str):Int:=l.foldl u0 0
theorem l8:∀ (l:Str) {v:Int},(∀ c ∈ l,isD c=true)→0≤v→0≤l.foldl u0 v
 | [],_,_,h=>h
 | c :: l,v,hl,h=>by
  rw [List.foldl_cons]
  have:=oG.1 (hl c (by simp))
  exact l8 l (fun d hd=>hl d (by simp [hd])) (by unfold u0; omega)
theorem C0 {cap:Int} (hc:0≤cap):∀ (l:Str) {v:Int},(∀ c ∈ l,isD c=true)→0≤v→l.foldl (Cv cap) (min v cap)=min (l.foldl u0 v) cap
 | [],_,_,_=>rfl
 | c :: l,v,hl,h=>by
  rw [List.foldl_cons,List.foldl_cons]
  have:=oG.1 (hl c (by simp))
  rw [show Cv cap (min v cap) c=min (u0 v c) cap from by unfold Cv u0; omega]
  exact C0 hc l (fun d hd=>hl d (by simp [hd])) (by unfold u0; omega)
theorem OO:∀ (n:Nat) {v:Int},0≤v→uV n (min v 9007199254740993)=min (v * 10 ^ n) 9007199254740993
 | 0,v,_=>by simp [uV]
 | n + 1,v,h=>by
  unfold uV
  rw [show pX (min v 9007199254740993) 0=min (v * 10) 9007199254740993 from by unfold pX; omega,OO n (by omega),Int.pow_succ]
  congr 1
  rw [Int.mul_assoc,Int.mul_comm 10]
def uO (below:Bool) (x:Int):Int × Int:=if x≤9007199254740992 then (if below then -x else x,0) else (0,2)
def qK (s:Str):Int × Int :=
 match (kN s).1.dropWhile isD with
 | []=>if (kN s).1.takeWhile isD=[] then (0,1) else uO (kN s).2 (nF ((kN s).1.takeWhile isD) * 1000)
 | c :: r=>if c=46∧(kN s).1.takeWhile isD ≠ []∧r.dropWhile isD=[]∧1≤r.length∧r.length≤3 then uO (kN s).2 (nF ((kN s).1.takeWhile isD ++ r) * 10 ^ (3 - r.length)) else (0,1)
theorem Mf:∀ (l r:Str) (v w p:Int),(∀ c ∈ l,isD c=true)→oU (l ++ r) v w p false=oU r (l.foldl (Cv 9007199254740993) v) (w + l.length) p false
 | [],r,v,w,p,_=>by simp
 | c :: l,r,v,w,p,hl=>by
  have h1:=oG.1 (hl c (by simp))
  rw [List.cons_append,p7,if_neg (by rintro ⟨rfl,_⟩; revert h1; decide),if_neg (by omega),if_neg (by simp),Mf l r _ _ _ (fun d hd=>hl d (by simp [hd])),List.foldl_cons]
  simp only [List.length_cons]
  congr 1
  omega
theorem Li:∀ (l r:Str) (v w p:Int),(∀ c ∈ l,isD c=true)→oU (l ++ r) v w p true=oU r (l.foldl (Cv 9007199254740993) v) w (p + l.length) true
 | [],r,v,w,p,_=>by simp
 | c :: l,r,v,w,p,hl=>by
  have h1:=oG.1 (hl c (by simp))
  rw [List.cons_append,p7,if_neg (by rintro ⟨_,h,_⟩; cases h),if_neg (by omega),if_pos rfl,Li l r _ _ _ (fun d hd=>hl d (by simp [hd])),List.foldl_cons]
  simp only [List.length_cons]
  congr 1
  omega
theorem n3 (t:Str):∀ c ∈ t.takeWhile isD,isD c=true:=fun c hc=>by
 induction t with
 | nil=>simp at hc
 | cons a t ih=>
  rw [List.takeWhile_cons] at hc
  split at hc
  ·rcases List.mem_cons.1 hc with rfl | hc
   ·assumption
   ·exact ih hc
  ·simp at hc
theorem Ni {t:Str}{c:UInt8}{r:Str} (h:t.dropWhile isD=c :: r):isD c=false:=by
 induction t with
 | nil=>simp at h
 | cons a t ih=>
  rw [List.dropWhile_cons] at h
  split at h
  ·exact ih h
  ·rename_i h1; cases h; simpa using h1
theorem Om (below:Bool) {x:Int} (h:0≤x) (n:Nat):(if oK (uV n (min x 9007199254740993)) then (if below then -uV n (min x 9007199254740993) else uV n (min x 9007199254740993),(0:Int)) else (0,2))=uO below (x * 10 ^ n):=by
 rw [OO n h]
 have hx:0≤x * 10 ^ n:=Int.mul_nonneg h (Int.pow_nonneg (by omega))
 unfold uO
 by_cases h1:x * 10 ^ n≤9007199254740992
 ·rw [if_pos h1,if_pos (nE.2 (by omega)),show min (x * 10 ^ n) 9007199254740993=x * 10 ^ n from by omega]
 ·rw [if_neg h1,if_neg (fun h2=>by have:=nE.1 h2; omega)]
theorem UA (s:Str):Pn s=qK s:=by
 unfold Pn qK
 generalize kN s=cb
 obtain ⟨t,below⟩:=cb
 dsimp only
 have e:=List.takeWhile_append_dropWhile (p:=isD) (l:=t)
 have hd:=n3 t
 have hh:∀ c r',t.dropWhile isD=c :: r'→isD c=false:=fun c r' h=>Ni h
 revert e hh hd
 generalize t.takeWhile isD=ds
 generalize t.dropWhile isD=r
 intro e hd hh
 subst e
 have hv:=l8 ds hd (Int.le_refl 0)
 have hs:=C0 (cap:=9007199254740993) (by omega) ds hd (Int.le_refl 0)
 simp only [show min (0:Int) 9007199254740993=0 from rfl] at hs
 rw [Mf _ _ _ _ _ hd,hs]
 rcases r with _ | ⟨c,r⟩
 ·rw [Ew]
  unfold DT
  dsimp only
  by_cases h1:ds=[]
  ·subst h1; rfl
  ·have:0 < ds.length:=List.length_pos_iff.2 h1
   rw [if_neg (by simp; omega),if_neg h1]
   exact Om below hv 3
 ·have hc:=JJ.1 (hh c r rfl)
  dsimp only
  rw [p7]
  by_cases h1:c=46∧false=false∧0 < 0 + (ds.length:Int)
  ·rw [if_pos h1]
   have hne:ds ≠ []:=List.length_pos_iff.1 (by omega)
   have e:=List.takeWhile_append_dropWhile (p:=isD) (l:=r)
   have hd2:=n3 r
   have hh2:∀ c r',r.dropWhile isD=c :: r'→isD c=false:=fun c r' h=>Ni h
   revert e hh2 hd2
   generalize r.takeWhile isD=ps
   generalize r.dropWhile isD=q
   intro e hd2 hh2
   subst e
   have hs2:=C0 (cap:=9007199254740993) (by omega) ps hd2 hv
   rw [Li _ _ _ _ _ hd2,hs2]
   rcases q with _ | ⟨c2,q⟩
   ·rw [Ew,List.append_nil]
    unfold DT
    dsimp only
    by_cases h2:1≤ps.length∧ps.length≤3
    ·rw [if_neg (show ¬(0 + (ds.length:Int)=0 ∨ 3 < 0 + (ps.length:Int) ∨ (true=true∧0 + (ps.length:Int)=0)) from by rintro (h | h | ⟨_,h⟩) <;> omega),if_pos (show c=46∧ds ≠ []∧([]:Str)=[]∧1≤ps.length∧ps.length≤3 from ⟨h1.1,hne,rfl,h2⟩)]
     rw [Om below (l8 ps hd2 hv),show (3 - (0 + (ps.length:Int))).toNat=3 - ps.length by omega]
     unfold nF; rw [List.foldl_append]
    ·rw [if_pos (show 0 + (ds.length:Int)=0 ∨ 3 < 0 + (ps.length:Int) ∨ (true=true∧0 + (ps.length:Int)=0) from by
      by_cases h4:ps.length=0
      ·exact .inr (.inr ⟨rfl,by omega⟩)
      ·exact .inr (.inl (by omega))),if_neg (show ¬(c=46∧ds ≠ []∧([]:Str)=[]∧1≤ps.length∧ps.length≤3) from fun h=>h2 h.2.2.2)]
   ·have hc2:=JJ.1 (hh2 c2 q rfl)
    rw [p7,if_neg (by rintro ⟨_,h,_⟩; cases h),if_pos hc2,if_neg (by rintro ⟨_,_,h,_⟩; cases h)]
    rfl
  ·rw [if_neg h1,if_pos hc,if_neg]
   ·rfl
   ·rintro ⟨h2,h3,_⟩
    exact h1 ⟨h2,rfl,by have:=List.length_pos_iff.2 h3; omega⟩
theorem Dd {σ β:Type}{ph:σ→List (Nat × AV)}{ob:σ→List Obj}{rest:σ→Option β}{m:Option (σ ⊕ β)}{x:σ}{r:Option β} (hm:m=some (.inl x)) (h:rest x=r):vG ph ob rest m=r:=by
 subst hm; exact h
def PQ (below:Bool) (t:Str):Int × Int :=
 match t.dropWhile isD with
 | []=>if t.takeWhile isD=[] then (0,1) else uO below (nF (t.takeWhile isD) * 1000)
 | c :: r=>if c=46∧t.takeWhile isD ≠ []∧r.dropWhile isD=[]∧1≤r.length∧r.length≤3 then uO below (nF (t.takeWhile isD ++ r) * 10 ^ (3 - r.length)) else (0,1)
theorem Wa (s:Str):qK s=PQ (kN s).2 (kN s).1:=rfl
end Go.Proofs.YthgenmkengbmmaaGreatDoor.AM
namespace Go.Proofs.YthgenmkengbmmaaGreatDoor.AM
open Go
open Go.Lib (decDigits)
def dgB (n:Nat):UInt8:=UInt8.ofNat (48 + n)
theorem lW {u:Nat} (h:u < 10):decDigits u=[dgB u]:=by rw [decDigits,dif_pos h]; rfl
theorem rZ {u:Nat} (h:¬ u < 10):decDigits u=decDigits (u / 10) ++ [dgB (u % 10)]:=by rw [decDigits,dif_neg h]; rfl
theorem wT {n:Nat} (h:n < 10):(dgB n).toNat=48 + n:=by
 unfold dgB; rw [UInt8.toNat_ofNat']; omega
theorem pZ {n:Nat} (h:n < 10):isD (dgB n)=true:=by
 rw [oG,wT h]; omega
theorem yH:∀ (u:Nat),∀ c ∈ decDigits u,isD c=true:=by
 intro u
 induction u using Nat.strongRecOn with
 | ind u ih=>
  intro c hc
  by_cases h:u < 10
  ·rw [lW h] at hc
   rw [List.mem_singleton.1 hc]; exact pZ h
  ·rw [rZ h] at hc
   rcases List.mem_append.1 hc with hc | hc
   ·exact ih (u / 10) (by omega) c hc
   ·rw [List.mem_singleton.1 hc]; exact pZ (by omega)
theorem Bo:∀ (u:Nat),nF (decDigits u)=u:=by
 intro u
 induction u using Nat.strongRecOn with
 | ind u ih=>
  by_cases h:u < 10
  ·rw [lW h]
   simp only [nF,List.foldl_cons,List.foldl_nil,u0,wT h]; omega
  ·rw [rZ h]
   have:=ih (u / 10) (by omega)
   unfold nF at this ⊢
   rw [List.foldl_append,this]
   simp only [List.foldl_cons,List.foldl_nil,u0,wT (show u % 10 < 10 by omega)]; omega
theorem wG (u:Nat):decDigits u ≠ []:=by
 by_cases h:u < 10
 ·rw [lW h]; simp
 ·rw [rZ h]; simp
theorem yL:∀ (k u:Nat),u < 10 ^ k→1≤k→(decDigits u).length≤k
 | 0,u,h,h1=>by omega
 | k + 1,u,h,_=>by
  by_cases h2:u < 10
  ·rw [lW h2]; simp
  ·rw [rZ h2,List.length_append,List.length_singleton]
   have h3:u / 10 < 10 ^ k:=by rw [Nat.pow_succ] at h; omega
   have:1≤k:=by
    rcases Nat.eq_zero_or_pos k with rfl | hk
    ·omega
    ·exact hk
   have:=yL k (u / 10) h3 this
   omega
theorem Ja (n:Nat) (h:n≤9223372036854775807):strconv_Itoa (n:Int)=some (decDigits n):=by
 unfold strconv_Itoa
 rw [aM (by omega)]
 unfold Lib.itoa
 rw [if_neg (by omega),Int.toNat_natCast]
theorem Mj (n:Nat) (h:n < 10):eO [IntKind.u8.wrap (wI ((48:Int) + (n:Int)))]=[dgB n]:=by
 have:n=0 ∨ n=1 ∨ n=2 ∨ n=3 ∨ n=4 ∨ n=5 ∨ n=6 ∨ n=7 ∨ n=8 ∨ n=9:=by omega
 rcases this with rfl | rfl | rfl | rfl | rfl | rfl | rfl | rfl | rfl | rfl <;> rfl
theorem Ft:∀ (k u:Nat),u < 10 ^ k→u≤9223372036854775807→1≤k→k≤64→jK k (u:Int)=some (decDigits u)
 | 0,u,_,_,h,_=>by omega
 | k + 1,u,h,hu,_,hk=>by
  unfold jK
  simp only [aV,aO,eC,bI]
  by_cases h2:u < 10
  ·rw [if_pos (by omega),Mj u h2,lW h2]
  ·have h3:u / 10 < 10 ^ k:=by rw [Nat.pow_succ] at h; omega
   have h1k:1≤k:=by
    rcases Nat.eq_zero_or_pos k with rfl | hk
    ·omega
    ·exact hk
   have hd:Int.tdiv (u:Int) 10=((u / 10:Nat):Int):=by rw [Int.tdiv_eq_ediv_of_nonneg (by omega)]; omega
   have hm:Int.tmod (u:Int) 10=((u % 10:Nat):Int):=by rw [Int.tmod_eq_emod_of_nonneg (by omega)]; omega
   rw [if_neg (by omega),hd,hm,bC (by omega),Ft k (u / 10) h3 (by omega) h1k (by omega),aC,Mj _ (by omega)]
   have:=yL k (u / 10) h3 h1k
   rw [aM (by simp; omega),rZ h2]
theorem lS (u:Nat) (h:u≤9223372036854775807):ref01_Digits (u:Int)=some (decDigits u) :=
 Ft 64 u (Nat.lt_of_le_of_lt h (by decide)) h (by omega) (by omega)
def jQ (r:Nat):Str:=if r=0 then [] else if r % 100=0 then [46,dgB (r / 100)] else if r % 10=0 then [46,dgB (r / 100),dgB (r / 10 % 10)] else [46,dgB (r / 100),dgB (r / 10 % 10),dgB (r % 10)]
def jT (u:Nat):Str:=decDigits (u / 1000) ++ jQ (u % 1000)
def printN (v:Int):Str:=if oK v then (if v < 0 then 45 :: jT v.natAbs else jT v.natAbs) else []
def xP (b:UInt8):Str→Str
 | s=>(s.reverse.dropWhile (· == b)).reverse
theorem NK (s:Str) (c:UInt8) (h:s.length≤100000000):hY s (c.toNat:Int)=some (xP c s):=by
 unfold hY
 refine dZ (fun x:Str=>x.length≤100000000) List.length (xP c) ?_ h
 intro x hx
 simp only [aV,aO]
 rcases List.eq_nil_or_concat x with rfl | ⟨y,d,rfl⟩
 ·left; rfl
 ·simp only [List.concat_eq_append,List.length_append,List.length_singleton] at hx ⊢
  have hd:(y ++ [d])[((y.length + 1:Nat):Int).toNat - 1]?=some d:=by simp
  rw [if_pos (by omega),bC (by omega),show ((y.length + 1:Nat):Int) - 1=(y.length:Int) by omega,a8 (x:=d) (by simp)]
  by_cases he:d=c
  ·right
   rw [if_pos (by rw [he]),aM (by omega)]
   refine ⟨y,by simp,by omega,by omega,?_⟩
   unfold xP; simp [he]
  ·left
   rw [if_neg (fun h=>he (UInt8.toNat_inj.1 (by omega)))]
   unfold xP; simp [he]
theorem LN (s:Str) (h:s.length≤100000000):gG s [48]=some (xP 48 s):=by
 unfold gG
 simp only [aV,n5,aO,← Bool.decide_or]
 by_cases hs:s=[]
 ·subst hs; rw [if_pos (by simp)]; rfl
 ·rw [if_neg (by simp [hs]),if_pos (by simp),gL (x:=48) (by omega) (by rfl),if_pos (by decide)]
  rw [NK s 48 h]; rfl
theorem Gu {n:Nat} (h:n < 10):dgB n=48 ↔ n=0:=by
 constructor
 ·intro e
  have:=congrArg UInt8.toNat e
  rw [wT h] at this
  have h48:(48:UInt8).toNat=48:=rfl
  omega
 ·rintro rfl; rfl
theorem SH {r:Nat} (h:r < 1000):decDigits (1000 + r)=[49,dgB (r / 100),dgB (r / 10 % 10),dgB (r % 10)]:=by
 rw [rZ (by omega),rZ (by omega),rZ (by omega),lW (by omega)]
 simp only [List.cons_append,List.nil_append]
 rw [show (1000 + r) / 10 / 10 / 10=1 by omega,show (1000 + r) / 10 / 10 % 10=r / 100 by omega,show (1000 + r) / 10 % 10=r / 10 % 10 by omega,show (1000 + r) % 10=r % 10 by omega]
 rfl
theorem PE {r:Nat} (h:r < 1000) (h0:r ≠ 0):46 :: xP 48 [dgB (r / 100),dgB (r / 10 % 10),dgB (r % 10)]=jQ r:=by
 unfold xP jQ
 rw [if_neg h0]
 have e1:=Gu (show r / 100 < 10 by omega)
 have e2:=Gu (show r / 10 % 10 < 10 by omega)
 have e3:=Gu (show r % 10 < 10 by omega)
 by_cases h1:r % 10=0
 ·by_cases h2:r / 10 % 10=0
  ·rw [if_pos (by omega)]
   have h3:¬ dgB (r / 100)=48:=fun h=>by have:=e1.1 h; omega
   simp [e3.2 h1,e2.2 h2,h3]
  ·rw [if_neg (by omega),if_pos h1]
   have h3:¬ dgB (r / 10 % 10)=48:=fun h=>h2 (e2.1 h)
   simp [e3.2 h1,h3]
 ·rw [if_neg (by omega),if_neg h1]
  have h3:¬ dgB (r % 10)=48:=fun h=>h1 (e3.1 h)
  simp [h3]
theorem RP (b:UInt8) (s:Str):(xP b s).length≤s.length:=by
 unfold xP
 rw [List.length_reverse]
 have:=(List.dropWhile_sublist (fun x=>x == b) (l:=s.reverse)).length_le
 rw [List.length_reverse] at this; exact this
theorem SD (r:Nat):(jQ r).length≤4:=by
 unfold jQ; repeat' split
 all_goals simp
theorem Hu {u:Nat} (h:u≤9007199254740992):(jT u).length≤30:=by
 unfold jT
 have:=yL 20 (u / 1000) (Nat.lt_of_le_of_lt (show u / 1000≤9007199254740992 by omega) (by decide)) (by omega)
 have:=SD (u % 1000)
 rw [List.length_append]; omega
theorem EH (u k:Nat):Int.tdiv (u:Int) (k:Int)=((u / k:Nat):Int):=by
 rw [Int.tdiv_eq_ediv_of_nonneg (by omega)]; simp
theorem Cf (u k:Nat):Int.tmod (u:Int) (k:Int)=((u % k:Nat):Int):=by
 rw [Int.tmod_eq_emod_of_nonneg (by omega)]; simp
theorem LW (v:Int):wW v=some (printN v):=by
 unfold wW printN
 simp only [aV,Bn,aC,bP,aO]
 cases hn:oK v
 ·rfl
 have hv:=nE.1 hn
 simp only [aZ,if_true]
 have body:∀ (pre:Str) (u:Nat),pre.length≤1→u≤9007199254740992 →
   (aJ vS (fun x6=>[]) (strconv_Itoa (wI (Int.tdiv (u:Int) 1000))) fun x6=>
    gdM (pre.length + x6.length≤9223372036854775807) (if Int.tmod (u:Int) 1000=0 then aG (pre ++ x6) else
     aJ vS (fun x12=>[]) (strconv_Itoa (wI (1000 + Int.tmod (u:Int) 1000))) fun x12=>gdM (0≤(1:Int)∧(1:Int)≤(x12.length:Int)∧(x12.length:Int)≤(x12.length:Int))
      (gdM ((pre ++ x6).length + ([46]:Str).length≤9223372036854775807) (aJ vS (fun x15=>[]) (gG ((x12.take (x12.length:Int).toNat).drop (1:Int).toNat) [48]) fun x15=>
       gdM ((pre ++ x6 ++ [46]).length + x15.length≤9223372036854775807) (aG (pre ++ x6 ++ [46] ++ x15))))))=some (pre ++ jT u):=by
  intro pre u hp hu
  have h1:=EH u 1000
  have h2:=Cf u 1000
  simp only [Int.cast_ofNat_Int] at h1 h2
  have hl:=yL 20 (u / 1000) (Nat.lt_of_le_of_lt (show u / 1000≤9007199254740992 by omega) (by decide)) (by omega)
  rw [h1,h2,bC (by omega),Ja _ (by omega),aC,aM (by omega)]
  unfold jT
  by_cases hr:u % 1000=0
  ·rw [if_pos (by omega),hr]; simp [jQ]
  ·rw [if_neg (by omega),bC (by omega),show (1000:Int) + ((u % 1000:Nat):Int)=((1000 + u % 1000:Nat):Int) by omega,Ja _ (by omega),aC,SH (by omega)]
   rw [aM (by simp),aM (by simp only [List.length_append,List.length_singleton]; omega)]
   rw [show ((([49,dgB (u % 1000 / 100),dgB (u % 1000 / 10 % 10),dgB (u % 1000 % 10)]:Str).take ((([49,dgB (u % 1000 / 100),dgB (u % 1000 / 10 % 10),dgB (u % 1000 % 10)]:Str).length:Nat):Int).toNat).drop (1:Int).toNat)=[dgB (u % 1000 / 100),dgB (u % 1000 / 10 % 10),dgB (u % 1000 % 10)] from rfl]
   have ht:=RP 48 [dgB (u % 1000 / 100),dgB (u % 1000 / 10 % 10),dgB (u % 1000 % 10)]
   rw [LN _ (by simp),aC,aM (by simp only [List.length_append,List.length_singleton,List.length_cons,List.length_nil] at ht ⊢; omega)]
   rw [← PE (show u % 1000 < 1000 by omega) hr]
   simp
 by_cases hneg:v < 0
 ·rw [if_pos hneg,if_pos hneg,bC (x:=0 - v) (by omega),show 0 - v=(v.natAbs:Int) by omega]
  exact body [45] v.natAbs (by simp) (by omega)
 ·rw [if_neg hneg,if_neg hneg]
  have:=body [] v.natAbs (by simp) (by omega)
  rw [show (v.natAbs:Int)=v by omega] at this
  exact this
theorem JT (k u:Nat) (hu:u≤9007199254740992):gY (k + 1) (u:Int)=some (jT u):=by
 unfold gY
 have hn:oK (u:Int)=true:=nE.2 (by omega)
 simp only [aV,rF,aC,bP,aO,hn,aZ]
 have h1:=EH u 1000
 have h2:=Cf u 1000
 have h3:=EH (u % 1000) 100
 have h4:=Cf (u % 1000) 100
 have h5:=EH (u % 1000) 10
 have h6:=Cf (u % 1000 / 10) 10
 have h7:=Cf (u % 1000) 10
 simp only [Int.cast_ofNat_Int] at h1 h2 h3 h4 h5 h6 h7
 have hl:=yL 20 (u / 1000) (Nat.lt_of_le_of_lt (show u / 1000≤9007199254740992 by omega) (by decide)) (by omega)
 rw [if_neg (by omega),h1,h2,bC (by omega),lS _ (by omega),aC,h3,h4,h5,h7]
 unfold jT jQ
 by_cases hr:u % 1000=0
 ·rw [if_pos (by omega),if_pos hr]; simp
 rw [if_neg (by omega),if_neg hr,aM (by simp; omega),bC (by omega),lS _ (by omega),aC,lW (show u % 1000 / 100 < 10 by omega),aM (by simp; omega)]
 by_cases h8:u % 1000 % 100=0
 ·rw [if_pos (by omega),if_pos (by omega),if_pos h8]; simp
 rw [if_neg (by omega),if_neg h8,bC (by omega),h6,lS _ (by omega),aC,lW (show u % 1000 / 10 % 10 < 10 by omega),aM (by simp; omega)]
 by_cases h9:u % 1000 % 10=0
 ·rw [if_pos (by omega),if_pos h9]; simp
 rw [if_neg (by omega),if_neg h9,lS _ (by omega),aC,lW (show u % 1000 % 10 < 10 by omega),aM (by simp; omega)]
 simp
theorem I6 (v:Int):ref01_Print v=some (printN v):=by
 unfold ref01_Print printN
 cases hn:oK v
 ·unfold gY
  simp only [rF,aC,hn]; try rfl
 have hv:=nE.1 hn
 simp only [if_true]
 by_cases hneg:v < 0
 ·rw [if_pos hneg]
  unfold gY
  simp only [aV,rF,aC,bP,aO,hn,aZ]
  rw [if_pos hneg,bC (x:=0 - v) (by omega),show 0 - v=(v.natAbs:Int) by omega,JT 62 _ (by omega),aC]
  have:=Hu (show v.natAbs≤9007199254740992 by omega)
  rw [aM (by simp; omega)]; rfl
 ·rw [if_neg hneg]
  have:=JT 63 v.natAbs (by omega)
  rw [show (v.natAbs:Int)=v by omega] at this
  exact this
theorem GI:∀ (l r:Str),(∀ c ∈ l,isD c=true)→(∀ c r',r=c :: r'→isD c=false)→(l ++ r).takeWhile isD=l∧(l ++ r).dropWhile isD=r
 | [],r,_,hr=>by
  rcases r with _ | ⟨c,r⟩
  ·exact ⟨rfl,rfl⟩
  ·have:=hr c r rfl
   simp [List.takeWhile_cons,List.dropWhile_cons,this]
 | c :: l,r,hl,hr=>by
  obtain ⟨h1,h2⟩:=GI l r (fun d hd=>hl d (by simp [hd])) hr
  have:=hl c (by simp)
  simp [List.takeWhile_cons,List.dropWhile_cons,this,h1,h2]
theorem yG (l:Str) {d:Nat} (h:d < 10):nF (l ++ [dgB d])=nF l * 10 + d:=by
 unfold nF
 rw [List.foldl_append]
 simp only [List.foldl_cons,List.foldl_nil,u0,wT h]; omega
theorem Rg (r:Nat):∀ c r',jQ r=c :: r'→isD c=false:=by
 intro c r' h
 unfold jQ at h
 split at h
 ·cases h
 ·split at h
  ·cases h; decide
  ·split at h
   ·cases h; decide
   ·cases h; decide
theorem FD (u:Nat):∃ c t,jT u=c :: t∧isD c=true:=by
 unfold jT
 rcases hd:decDigits (u / 1000) with _ | ⟨c,t⟩
 ·exact absurd hd (wG _)
 ·exact ⟨c,t ++ jQ (u % 1000),rfl,yH (u / 1000) c (by rw [hd]; simp)⟩
theorem Pb {c:UInt8}{t:Str} (h:isD c=true):kN (c :: t)=(c :: t,false):=by
 unfold kN
 split
 ·rename_i h1; cases h1
  have:isD 45=false:=by decide
  rw [this] at h; cases h
 ·rfl
theorem Fl (below:Bool) (u:Nat):PQ below (jT u)=uO below u:=by
 unfold PQ jT
 obtain ⟨h1,h2⟩:=GI (decDigits (u / 1000)) (jQ (u % 1000)) (yH _) (Rg _)
 rw [h1,h2]
 by_cases hr:u % 1000=0
 ·rw [show jQ (u % 1000)=[] from by unfold jQ; rw [if_pos hr]]
  dsimp only
  rw [if_neg (wG _),Bo]
  congr 1; omega
 have d1:=pZ (show u % 1000 / 100 < 10 by omega)
 have d2:=pZ (show u % 1000 / 10 % 10 < 10 by omega)
 have d4:=pZ (show u % 10 < 10 by omega)
 have d3:=pZ (show u % 1000 % 10 < 10 by omega)
 by_cases h3:u % 1000 % 100=0
 ·rw [show jQ (u % 1000)=[46,dgB (u % 1000 / 100)] from by unfold jQ; rw [if_neg hr,if_pos h3]]
  dsimp only
  rw [if_pos ⟨rfl,wG _,by simp [List.dropWhile_cons,d1],by simp,by simp⟩,yG _ (by omega),Bo]
  congr 1
  simp only [List.length_cons,List.length_nil]
  omega
 by_cases h4:u % 1000 % 10=0
 ·rw [show jQ (u % 1000)=[46,dgB (u % 1000 / 100),dgB (u % 1000 / 10 % 10)] from by unfold jQ; rw [if_neg hr,if_neg h3,if_pos h4]]
  dsimp only
  rw [if_pos ⟨rfl,wG _,by simp [List.dropWhile_cons,d1,d2],by simp,by simp⟩,show decDigits (u / 1000) ++ [dgB (u % 1000 / 100),dgB (u % 1000 / 10 % 10)]=(decDigits (u / 1000) ++ [dgB (u % 1000 / 100)]) ++ [dgB (u % 1000 / 10 % 10)] from by simp,yG _ (by omega),yG _ (by omega),Bo]
  congr 1
  simp only [List.length_cons,List.length_nil]
  omega
 ·rw [show jQ (u % 1000)=[46,dgB (u % 1000 / 100),dgB (u % 1000 / 10 % 10),dgB (u % 1000 % 10)] from by unfold jQ; rw [if_neg hr,if_neg h3,if_neg h4]]
  dsimp only
  rw [if_pos ⟨rfl,wG _,by simp [List.dropWhile_cons,d1,d2,d3,d4],by simp,by simp⟩,show decDigits (u / 1000) ++ [dgB (u % 1000 / 100),dgB (u % 1000 / 10 % 10),dgB (u % 1000 % 10)]=(decDigits (u / 1000) ++ [dgB (u % 1000 / 100)] ++ [dgB (u % 1000 / 10 % 10)]) ++ [dgB (u % 1000 % 10)] from by simp,yG _ (by omega),yG _ (by omega),yG _ (by omega),Bo]
  congr 1
  simp only [List.length_cons,List.length_nil]
  omega
theorem Sm {v:Int} (h:oK v=true):qK (printN v)=(v,0):=by
 have hv:=nE.1 h
 unfold printN
 rw [if_pos h,Wa]
 by_cases hn:v < 0
 ·rw [if_pos hn]
  show PQ true (jT v.natAbs)=_
  rw [Fl]
  unfold uO
  rw [if_pos (by omega),if_pos rfl,show -(v.natAbs:Int)=v by omega]
 ·rw [if_neg hn]
  obtain ⟨c,t,e,hc⟩:=FD v.natAbs
  have e2:kN (jT v.natAbs)=(jT v.natAbs,false):=by rw [e]; exact Pb hc
  rw [e2,Fl]
  unfold uO
  rw [if_pos (by omega),show (v.natAbs:Int)=v by omega]; rfl
def eA:List (Str × Nat):=[([100],86400000),([104],3600000),([109],60000),([115],1000),([109,115],1)]
def S6:List iK:=[⟨[100],86400000⟩,⟨[104],3600000⟩,⟨[109],60000⟩,⟨[115],1000⟩,⟨[109,115],1⟩]
theorem S8:vR=some S6:=rfl
theorem Jk:∀ (i:Nat),i < 5→∃ (n:Str) (k:Nat),gl0[i]?=some ⟨n,(k:Int)⟩∧S6[i]?=some ⟨n,(k:Int)⟩∧eA.drop i=(n,k) :: eA.drop (i + 1)∧(1≤k∧k≤86400000)∧1≤n.length∧n.length≤2
 | 0,_=>⟨_,86400000,rfl,rfl,rfl,by omega,by decide,by decide⟩
 | 1,_=>⟨_,3600000,rfl,rfl,rfl,by omega,by decide,by decide⟩
 | 2,_=>⟨_,60000,rfl,rfl,rfl,by omega,by decide,by decide⟩
 | 3,_=>⟨_,1000,rfl,rfl,rfl,by omega,by decide,by decide⟩
 | 4,_=>⟨_,1,rfl,rfl,rfl,by omega,by decide,by decide⟩
 | n + 5,h=>by omega
def eV:List (Str × Nat)→Nat→Str
 | [],_=>[]
 | (n,k) :: l,d=>(if 0 < d / k then decDigits (d / k) ++ n else []) ++ eV l (d % k)
def printD (d:Int):Str:=if tmB d then (if d=0 then [48,115] else eV eA d.toNat) else []
theorem QK {n:Nat} (h:n≤9223372036854775807):wI (n:Int)=n:=bC (by omega)
theorem Eu {u:Nat} (h:u≤9007199254740992):(decDigits u).length≤20:=yL 20 u (Nat.lt_of_le_of_lt h (by decide)) (by omega)
theorem L6 (v:Int):oV v=some (printD v):=by
 unfold oV printD
 simp only [aV,vA,aC,bP,aO,eC]
 cases hn:tmB v
 ·rfl
 have hv:=m7.1 hn
 simp only [aZ,if_true]
 by_cases h0:v=0
 ·rw [if_pos h0,if_pos h0]; rfl
 rw [if_neg h0,if_neg h0]
 refine (dZ (fun x:Int × Int × Str=>(0≤x.1∧x.1≤9007199254740992)∧(0≤x.2.1∧x.2.1≤5)∧(x.2.2.length:Int)≤22 * x.2.1) (fun x=>6 - x.2.1.toNat) (fun x=>x.2.2 ++ eV (eA.drop x.2.1.toNat) x.1.toNat) ?_ (by simp only [List.length_nil]; omega)).trans (by simp)
 rintro ⟨d,i,t⟩ ⟨hd,hi,ht⟩
 simp only at hd hi ht ⊢
 obtain ⟨i,rfl⟩:=Int.eq_ofNat_of_zero_le hi.1
 obtain ⟨d,rfl⟩:=Int.eq_ofNat_of_zero_le hd.1
 by_cases h5:i < 5
 ·right
  obtain ⟨n,k,e1,_,e2,hk,hn1,hn2⟩:=Jk i h5
  have hq:d / k≤9007199254740992:=Nat.le_trans (Nat.div_le_self d k) (by omega)
  have hm:d % k≤9007199254740992:=Nat.le_trans (Nat.mod_le d k) (by omega)
  rw [if_pos (by omega),a8 e1]
  simp only [Int.toNat_natCast]
  rw [aM (by omega),EH,Cf,QK (Nat.le_trans hq (by decide)),e2]
  simp only [eV]
  by_cases hp:0 < d / k
  ·have hl:=Eu hq
   rw [if_pos (by omega),if_pos hp,Ja _ (by omega),aC,aM (by omega),aM (by rw [List.length_append]; omega),aM (by omega),bC (by omega)]
   exact ⟨(((d % k:Nat):Int),((i + 1:Nat):Int),t ++ (decDigits (d / k) ++ n)),by simp,⟨by simp only; omega,by simp only; omega,by simp only [List.length_append]; omega⟩,by simp only; omega,by simp only [Int.toNat_natCast,List.append_assoc,List.nil_append]⟩
  ·rw [if_neg (by omega),if_neg hp,aM (by omega),bC (by omega)]
   exact ⟨(((d % k:Nat):Int),((i + 1:Nat):Int),t),by simp,⟨by simp only; omega,by simp only; omega,by simp only; omega⟩,by simp only; omega,by simp only [Int.toNat_natCast,List.append_assoc,List.nil_append]⟩
 ·left
  rw [if_neg (by omega),show i=5 by omega]
  simp [eA,eV]
theorem Iu (v:Int):mF v=some (printD v):=by
 unfold mF printD
 rw [S8]
 simp only [aV,wZ,aC,bP,aO,eC]
 cases hn:tmB v
 ·rfl
 have hv:=m7.1 hn
 simp only [aZ,if_true]
 by_cases h0:v=0
 ·rw [if_pos h0,if_pos h0]; rfl
 rw [if_neg h0,if_neg h0]
 refine (dZ (fun x:Int × Str × Int=>(0≤x.1∧x.1≤9007199254740992)∧(0≤x.2.2∧x.2.2≤5)∧(x.2.1.length:Int)≤22 * x.2.2) (fun x=>6 - x.2.2.toNat) (fun x=>x.2.1 ++ eV (eA.drop x.2.2.toNat) x.1.toNat) ?_ (by simp only [List.length_nil]; omega)).trans (by simp)
 rintro ⟨d,t,i⟩ ⟨hd,hi,ht⟩
 simp only at hd hi ht ⊢
 obtain ⟨i,rfl⟩:=Int.eq_ofNat_of_zero_le hi.1
 obtain ⟨d,rfl⟩:=Int.eq_ofNat_of_zero_le hd.1
 have h5l:(S6.length:Int)=5:=rfl
 by_cases h5:i < 5
 ·right
  obtain ⟨n,k,_,e1,e2,hk,hn1,hn2⟩:=Jk i h5
  have hq:d / k≤9007199254740992:=Nat.le_trans (Nat.div_le_self d k) (by omega)
  have hm:d % k≤9007199254740992:=Nat.le_trans (Nat.mod_le d k) (by omega)
  rw [if_pos (by omega),a8 e1]
  simp only [Int.toNat_natCast]
  rw [EH,Cf,QK (Nat.le_trans hq (by decide)),e2]
  simp only [eV]
  by_cases hp:0 < d / k
  ·have hl:=Eu hq
   have hkd:k≤d:=by
    rcases Nat.lt_or_ge d k with h | h
    ·rw [Nat.div_eq_of_lt h] at hp; omega
    ·exact h
   rw [if_pos (by omega),if_pos hp,aM (by omega),lS _ (by omega),aC,aM (by omega),aM (by rw [List.length_append]; omega),aM (by omega),bC (by omega)]
   exact ⟨(((d % k:Nat):Int),t ++ decDigits (d / k) ++ n,((i + 1:Nat):Int)),by simp,⟨by simp only; omega,by simp only; omega,by simp only [List.length_append]; omega⟩,by simp only; omega,by simp only [Int.toNat_natCast,List.append_assoc,List.nil_append]⟩
  ·have hkd:¬ k≤d:=fun h=>hp (Nat.div_pos h (by omega))
   rw [if_neg (by omega),if_neg hp,aM (by omega),bC (by omega)]
   exact ⟨(((d % k:Nat):Int),t,((i + 1:Nat):Int)),by simp,⟨by simp only; omega,by simp only; omega,by simp only; omega⟩,by simp only; omega,by simp only [Int.toNat_natCast,List.append_assoc,List.nil_append]⟩
 ·left
  rw [if_neg (by omega),show i=5 by omega]
  simp [eA,eV]
def fX:Str→Option (Nat × Nat × Nat)
 | 100 :: _=>some (0,1,86400000)
 | 104 :: _=>some (1,1,3600000)
 | 109 :: 115 :: _=>some (4,2,1)
 | 109 :: _=>some (2,1,60000)
 | 115 :: _=>some (3,1,1000)
 | _=>none
def o8 (x:Int):Int × Int:=if x≤9007199254740992 then (x,0) else (0,2)
def pB:Nat→Str→Nat→Int→Int × Int
 | _,[],_,sum=>o8 sum
 | 0,_ :: _,_,_=>(0,1)
 | f + 1,c :: s,fr,sum=>
  if (c :: s).takeWhile isD=[] then (0,1) else
  match fX ((c :: s).dropWhile isD) with
  | none=>(0,1)
  | some (k,n,z)=>if fr≤k then pB f (((c :: s).dropWhile isD).drop n) (k + 1) (sum + nF ((c :: s).takeWhile isD) * z) else (0,1)
def lD (s:Str):Int × Int:=if s=[] then (0,1) else pB s.length s 0 0
theorem uM (f fr:Nat) (sum:Int):pB f [] fr sum=o8 sum:=by cases f <;> rfl
theorem vL {s:Str}{k n z:Nat} (h:fX s=some (k,n,z)):k < 5∧1≤n∧n≤s.length∧1≤z∧z≤86400000:=by
 unfold fX at h
 split at h <;> first | (cases h; done) | (simp only [Option.some.injEq,Prod.mk.injEq] at h; obtain ⟨rfl,rfl,rfl⟩:=h; simp)
theorem AU {s:Str}{k n z:Nat} (h:fX (s.dropWhile isD)=some (k,n,z)) (h2:s.takeWhile isD ≠ []):((s.dropWhile isD).drop n).length + 2≤s.length:=by
 have e:=congrArg List.length (List.takeWhile_append_dropWhile (p:=isD) (l:=s))
 have:=vL h
 have:=List.length_pos_iff.2 h2
 rw [List.length_append] at e
 rw [List.length_drop]; omega
theorem J5:∀ (f g:Nat) (s:Str) (fr:Nat) (sum:Int),s.length≤f→s.length≤g→pB f s fr sum=pB g s fr sum
 | f,g,[],fr,sum,_,_=>by rw [uM,uM]
 | 0,g,c :: s,fr,sum,h,_=>by simp at h
 | f + 1,0,c :: s,fr,sum,_,h=>by simp at h
 | f + 1,g + 1,c :: s,fr,sum,h1,h2=>by
  unfold pB
  split
  ·rfl
  ·rename_i hne
   split
   ·rfl
   ·rename_i k n z hu
    split
    ·have:=AU hu hne
     simp only [List.length_cons] at this h1 h2
     exact J5 f g _ _ _ (by omega) (by omega)
    ·rfl
def AP (s:Str) (fr:Nat) (sum:Int):Int × Int:=pB s.length s fr sum
theorem Gm (fr:Nat) (sum:Int):AP [] fr sum=o8 sum:=rfl
theorem IG {s:Str} (hs:s ≠ []) (fr:Nat) (sum:Int):AP s fr sum=if s.takeWhile isD=[] then (0,1) else
  match fX (s.dropWhile isD) with
  | none=>(0,1)
  | some (k,n,z)=>if fr≤k then AP ((s.dropWhile isD).drop n) (k + 1) (sum + nF (s.takeWhile isD) * z) else (0,1):=by
 rcases s with _ | ⟨c,s⟩
 ·exact absurd rfl hs
 unfold AP
 rw [List.length_cons]
 conv=>lhs; unfold pB
 by_cases h1:(c :: s).takeWhile isD=[]
 ·rw [if_pos h1,if_pos h1]
 ·rw [if_neg h1,if_neg h1]
  rcases hu:fX ((c :: s).dropWhile isD) with _ | ⟨k,n,z⟩
  ·rfl
  ·simp only
   by_cases h2:fr≤k
   ·rw [if_pos h2,if_pos h2]
    have:=AU hu h1
    simp only [List.length_cons] at this
    exact J5 _ _ _ _ _ (by omega) (by omega)
   ·rw [if_neg h2,if_neg h2]
theorem OX (s:Str):lD s=if s=[] then (0,1) else AP s 0 0:=rfl
theorem RR (x:Int) (h:0≤x):tmB (o8 x).1=true:=by
 unfold o8; split
 ·exact m7.2 ⟨h,by assumption⟩
 ·rfl
theorem OZ:∀ (f:Nat) (s:Str) (fr:Nat) (sum:Int),0≤sum→tmB (pB f s fr sum).1=true
 | f,[],fr,sum,h=>by rw [uM]; exact RR sum h
 | 0,c :: s,fr,sum,_=>rfl
 | f + 1,c :: s,fr,sum,h=>by
  unfold pB
  split
  ·rfl
  ·split
   ·rfl
   ·split
    ·refine OZ f _ _ _ ?_
     have:=l8 ((c :: s).takeWhile isD) (n3 _) (Int.le_refl 0)
     rename_i z _ _
     have:=Int.mul_nonneg this (show (0:Int)≤z by omega)
     unfold nF; omega
    ·rfl
theorem Un (s:Str):tmB (lD s).1=true:=by
 unfold lD; split
 ·rfl
 ·exact OZ _ _ _ _ (Int.le_refl 0)
def NoS (r:Str):Prop:=∀ c r',r=c :: r'→c ≠ 115
theorem M3 {i:Nat}{n:Str}{k:Nat} (h:eA[i]?=some (n,k)) {r:Str} (hr:NoS r):fX (n ++ r)=some (i,n.length,k):=by
 have:i < 5:=(List.getElem?_eq_some_iff.1 h).1
 have:i=0 ∨ i=1 ∨ i=2 ∨ i=3 ∨ i=4:=by omega
 rcases this with rfl | rfl | rfl | rfl | rfl <;> simp only [eA,List.getElem?_cons_zero,List.getElem?_cons_succ,Option.some.injEq,Prod.mk.injEq] at h <;> obtain ⟨rfl,rfl⟩:=h
 ·rfl
 ·rfl
 ·rcases r with _ | ⟨c,r⟩
  ·rfl
  ·have:=hr c r rfl
   show fX (109 :: c :: r)=_
   unfold fX
   split
   ·rename_i h; cases h
   ·rename_i h; cases h
   ·rename_i h; cases h; exact absurd rfl this
   ·rfl
   ·rename_i h; cases h
   ·rename_i h1 h2 h3 h4 h5; exact absurd rfl (h4 _)
 ·rfl
 ·rfl
theorem MW (u:Nat):∃ c t,decDigits u=c :: t∧isD c=true:=by
 rcases hd:decDigits u with _ | ⟨c,t⟩
 ·exact absurd hd (wG _)
 ·exact ⟨c,t,rfl,yH u c (by rw [hd]; simp)⟩
theorem y5:∀ (l:List (Str × Nat)) (d:Nat),∀ c r',eV l d=c :: r'→isD c=true
 | [],d,c,r',h=>by cases h
 | (n,k) :: l,d,c,r',h=>by
  unfold eV at h
  by_cases hp:0 < d / k
  ·rw [if_pos hp] at h
   obtain ⟨c2,t,e,hc⟩:=MW (d / k)
   rw [e] at h
   cases h; exact hc
  ·rw [if_neg hp] at h
   exact y5 l _ c r' h
theorem Q3 {i:Nat}{n:Str}{k:Nat} (h:eA[i]?=some (n,k)) (r:Str):∀ c r',n ++ r=c :: r'→isD c=false:=by
 have:i < 5:=(List.getElem?_eq_some_iff.1 h).1
 have:i=0 ∨ i=1 ∨ i=2 ∨ i=3 ∨ i=4:=by omega
 rcases this with rfl | rfl | rfl | rfl | rfl <;> simp only [eA,List.getElem?_cons_zero,List.getElem?_cons_succ,Option.some.injEq,Prod.mk.injEq] at h <;> obtain ⟨rfl,rfl⟩:=h <;> (intro c r' h; cases h; decide)
theorem An (i:Nat) (h:i < 5):∃ n k,eA[i]?=some (n,k)∧eA.drop i=(n,k) :: eA.drop (i + 1)∧1≤k∧(i=4→k=1):=by
 have:i=0 ∨ i=1 ∨ i=2 ∨ i=3 ∨ i=4:=by omega
 rcases this with rfl | rfl | rfl | rfl | rfl
 ·exact ⟨_,_,rfl,rfl,by decide,by decide⟩
 ·exact ⟨_,_,rfl,rfl,by decide,by decide⟩
 ·exact ⟨_,_,rfl,rfl,by decide,by decide⟩
 ·exact ⟨_,_,rfl,rfl,by decide,by decide⟩
 ·exact ⟨_,_,rfl,rfl,by decide,by decide⟩
theorem xA:∀ (j i d fr:Nat) (sum:Int),i + j=5→fr≤i→(i=5→d=0)→AP (eV (eA.drop i) d) fr sum=o8 (sum + d)
 | 0,i,d,fr,sum,hi,_,h5=>by
  have:i=5:=by omega
  subst this
  rw [h5 rfl]
  show AP [] fr sum=_
  rw [Gm]; simp
 | j + 1,i,d,fr,sum,hi,hf,_=>by
  obtain ⟨n,k,hu,hd,hk,hk4⟩:=An i (by omega)
  rw [hd]
  unfold eV
  have hlast:i + 1=5→d % k=0:=fun h=>by rw [hk4 (by omega)]; exact Nat.mod_one d
  by_cases hp:0 < d / k
  ·rw [if_pos hp]
   have hno:NoS (eV (eA.drop (i + 1)) (d % k)):=fun c r' e hc=>by
    have:=y5 _ _ c r' e
    rw [hc] at this; revert this; decide
   obtain ⟨c,t,e,hc⟩:=MW (d / k)
   rw [List.append_assoc,IG (by rw [e]; simp)]
   obtain ⟨s1,s2⟩:=GI (decDigits (d / k)) (n ++ eV (eA.drop (i + 1)) (d % k)) (yH _) (Q3 hu _)
   rw [s1,s2,if_neg (wG _),M3 hu hno]
   simp only
   rw [if_pos hf,List.drop_left,Bo,xA j (i + 1) (d % k) (i + 1) _ (by omega) (by omega) hlast]
   congr 1
   have:=Nat.div_add_mod d k
   have e2:((d:Nat):Int)=((k * (d / k) + d % k:Nat):Int):=by rw [this]
   rw [e2]
   have e3:((k * (d / k) + d % k:Nat):Int)=(k:Int) * ((d / k:Nat):Int) + ((d % k:Nat):Int):=by simp
   rw [e3,Int.mul_comm (k:Int),Int.add_assoc]
  ·rw [if_neg hp,List.nil_append,xA j (i + 1) (d % k) fr sum (by omega) (by omega) hlast]
   have:d / k=0:=Nat.le_zero.1 (Nat.not_lt.1 hp)
   have h2:=Nat.div_add_mod d k
   rw [this,Nat.mul_zero,Nat.zero_add] at h2
   rw [h2]
theorem R9 {v:Int} (h:tmB v=true):lD (printD v)=(v,0):=by
 have hv:=m7.1 h
 unfold printD
 rw [if_pos h]
 by_cases h0:v=0
 ·rw [if_pos h0,h0]; rfl
 ·rw [if_neg h0]
  have:=xA 5 0 v.toNat 0 0 rfl (by omega) (by omega)
  rw [List.drop_zero] at this
  rw [OX]
  split
  ·rename_i e
   rw [e] at this
   rw [Gm] at this
   exfalso
   unfold o8 at this
   rw [if_pos (by omega),if_pos (by omega)] at this
   have:=congrArg Prod.fst this
   simp only at this; omega
  ·rw [this]
   unfold o8
   rw [if_pos (by omega)]
   congr 1; omega
end Go.Proofs.YthgenmkengbmmaaGreatDoor.AM
namespace Go.Proofs.YthgenmkengbmmaaGreatDoor.AM
open Go
theorem MQ (s:Str) (h:s.length≤100000000):wK s=some (min (nF (s.takeWhile isD)) 9007199254740993,((s.takeWhile isD).length:Int)):=by
 unfold wK
 simp only [aV]
 refine (dZ (fun x:Int × Int=>(0≤x.1∧x.1≤9007199254740993)∧(0≤x.2∧x.2≤s.length)) (fun x=>s.length + 1 - x.2.toNat) (fun x=>(((s.drop x.2.toNat).takeWhile isD).foldl (Cv 9007199254740993) x.1,x.2 + (((s.drop x.2.toNat).takeWhile isD).length:Int))) ?_ (by simp)).trans ?_
 ·rintro ⟨v,i⟩ ⟨hv,hi⟩
  simp only at hv hi ⊢
  obtain ⟨n,rfl⟩:=Int.eq_ofNat_of_zero_le hi.1
  simp only [aO,Int.toNat_natCast]
  by_cases hl:n < s.length
  ·rw [if_pos (by omega),a8 (bJ hl),dI hl,List.takeWhile_cons]
   by_cases h1:48≤(nth s n).toNat
   ·rw [if_pos (by omega)]
    by_cases h2:(nth s n).toNat≤57
    ·right
     rw [if_pos (by omega),if_pos (oG.2 ⟨h1,h2⟩)]
     rw [bC (show -9223372036854775808≤v * 10∧_ by omega)]
     have hu:IntKind.u8.wrap (((nth s n).toNat:Int) - 48)=((nth s n).toNat:Int) - 48:=by
      have:∃ k:Nat,k < 10∧(((nth s n).toNat:Int) - 48)=(k:Int):=⟨(nth s n).toNat - 48,by omega,by omega⟩
      obtain ⟨k,hk,e⟩:=this
      rw [e]
      have:k=0 ∨ k=1 ∨ k=2 ∨ k=3 ∨ k=4 ∨ k=5 ∨ k=6 ∨ k=7 ∨ k=8 ∨ k=9:=by omega
      rcases this with rfl | rfl | rfl | rfl | rfl | rfl | rfl | rfl | rfl | rfl <;> decide
     rw [hu,bC (show -9223372036854775808≤((nth s n).toNat:Int) - 48∧_ by omega),bC (by omega),bC (by omega)]
     refine ⟨(Cv 9007199254740993 v (nth s n),((n + 1:Nat):Int)),by simp [Cv,u0],⟨by simp only [Cv,u0]; omega,by simp only; omega⟩,by simp only; omega,?_⟩
     simp only [Int.toNat_natCast,List.foldl_cons,List.length_cons,Prod.mk.injEq,true_and]
     omega
    ·left
     rw [if_neg (by omega),if_neg (fun h=>h2 (oG.1 h).2)]
     simp
   ·left
    rw [if_neg (by omega),if_neg (fun h=>h1 (oG.1 h).1)]
    simp
  ·left
   rw [if_neg (by omega),List.drop_eq_nil_of_le (by omega)]
   simp
 ·have:=C0 (cap:=9007199254740993) (by omega) (s.takeWhile isD) (n3 s) (Int.le_refl 0)
  simp only [show min (0:Int) 9007199254740993=0 from rfl] at this
  simp [this,nF]
theorem SP {a:Int}{k:Nat} (ha:0≤a):Int.tdiv a (k:Int)=a / (k:Int):=Int.tdiv_eq_ediv_of_nonneg ha
theorem Wd {V:Int}{z:Nat} (hV:0≤V) (hz:1≤z):V≤V * z:=by
 have:=Int.mul_le_mul_of_nonneg_left (show (1:Int)≤(z:Int) by omega) hV
 omega
theorem Hr {S V:Int}{z:Nat} (hS:0≤S∧S≤9007199254740993) (hV:0≤V) (hz:1≤z∧z≤86400000):yF S (min V 9007199254740993) (z:Int)=some (min (S + V * z) 9007199254740993):=by
 unfold yF
 simp only [aV,aO,bI]
 have hvz:=Wd hV hz.1
 by_cases h1:9007199254740992 < S
 ·rw [if_pos h1]
  congr 1; omega
 rw [if_neg h1,aM (by omega),bC (show -9223372036854775808≤(9007199254740992 - S)∧_ by omega),SP (by omega)]
 have hq0:0≤(9007199254740992 - S) / (z:Int):=Int.ediv_nonneg (by omega) (by omega)
 have hq1:(9007199254740992 - S) / (z:Int)≤9007199254740992 - S:=Int.ediv_le_self _ (by omega)
 rw [bC (by omega)]
 have hiff:=Int.ediv_lt_iff_lt_mul (a:=9007199254740992 - S) (b:=V) (c:=(z:Int)) (by omega)
 by_cases h2:(9007199254740992 - S) / (z:Int) < min V 9007199254740993
 ·rw [if_pos h2]
  congr 1
  have:=hiff.1 (by omega)
  omega
 ·rw [if_neg h2]
  have h3:¬ (9007199254740992 - S) < V * z:=fun h=>by have:=hiff.2 h; omega
  rw [show min V 9007199254740993=V from by omega]
  rw [bC (show -9223372036854775808≤V * z∧_ by omega),bC (by omega)]
  congr 1; omega
theorem GQ:∀ (f:Nat) (s:Str) (fr:Nat) (S S':Int),min S 9007199254740993=min S' 9007199254740993→pB f s fr S=pB f s fr S'
 | f,[],fr,S,S',h=>by
  rw [uM,uM]; unfold o8
  by_cases h1:S≤9007199254740992
  ·rw [if_pos h1,show S'=S by omega,if_pos h1]
  ·rw [if_neg h1,if_neg (by omega)]
 | 0,c :: s,fr,S,S',h=>rfl
 | f + 1,c :: s,fr,S,S',h=>by
  unfold pB
  split
  ·rfl
  ·split
   ·rfl
   ·rename_i k n z _
    split
    ·refine GQ f _ _ _ _ ?_
     have:=Int.mul_nonneg (l8 _ (n3 (c :: s)) (Int.le_refl 0)) (show (0:Int)≤z by omega)
     unfold nF; omega
    ·rfl
theorem Pm {s:Str}{fr:Nat}{S S':Int} (h:min S 9007199254740993=min S' 9007199254740993):AP s fr S=AP s fr S':=GQ _ _ _ _ _ h
theorem Jj (s p:Str) (h:s.length≤9223372036854775807):iZ s p=some (decide (s.take p.length=p)):=by
 unfold iZ
 rw [El s p h,aC]; rfl
theorem Uj (rest:Str) (i:Nat) (n:Str) (k:Nat) (h:eA[i]?=some (n,k)):(rest.take n.length=n∧¬ (n=[109]∧rest.take 2=[109,115])) ↔ fX rest=some (i,n.length,k):=by
  have:i < 5:=(List.getElem?_eq_some_iff.1 h).1
  have hi:i=0 ∨ i=1 ∨ i=2 ∨ i=3 ∨ i=4:=by omega
  rcases rest with _ | ⟨c,r⟩
  · rcases hi with rfl | rfl | rfl | rfl | rfl <;> simp only [eA,List.getElem?_cons_zero,List.getElem?_cons_succ,Option.some.injEq,Prod.mk.injEq] at h <;> obtain ⟨rfl,rfl⟩:=h <;> simp [fX]
  have key:fX (c :: r)=if c=100 then some (0,1,86400000) else if c=104 then some (1,1,3600000) else if c=109 then (if r.take 1=[115] then some (4,2,1) else some (2,1,60000)) else if c=115 then some (3,1,1000) else none:=by
    by_cases h1:c=100
    · subst h1; rfl
    by_cases h2:c=104
    · subst h2; rfl
    by_cases h3:c=109
    · subst h3
      rcases r with _ | ⟨d,r⟩
      · rfl
      · by_cases h4:d=115
        · subst h4; rfl
        · simp only [h1,h2,if_false,if_true,List.take_succ_cons,List.take_zero,List.cons.injEq,and_true,h4]
          unfold fX
          split
          · rename_i e; cases e
          · rename_i e; cases e
          · rename_i e; cases e; exact absurd rfl h4
          · rfl
          · rename_i e; cases e
          · rename_i _ _ e _; exact absurd rfl (e _)
    by_cases h4:c=115
    · subst h4; rfl
    · simp only [h1,h2,h3,h4,if_false]
      unfold fX
      split
      · rename_i e; cases e; exact absurd rfl h1
      · rename_i e; cases e; exact absurd rfl h2
      · rename_i e; cases e; exact absurd rfl h3
      · rename_i e; cases e; exact absurd rfl h3
      · rename_i e; cases e; exact absurd rfl h4
      · rfl
  rw [key]
  rcases hi with rfl | rfl | rfl | rfl | rfl <;> simp only [eA,List.getElem?_cons_zero,List.getElem?_cons_succ,Option.some.injEq,Prod.mk.injEq] at h <;> obtain ⟨rfl,rfl⟩:=h <;>
    (simp only [List.length_cons,List.length_nil,List.take_succ_cons,List.take_zero,List.cons.injEq,and_true]
     by_cases h1:c=100
     · subst h1; simp
     by_cases h2:c=104
     · subst h2; simp
     by_cases h3:c=109
     · subst h3
       by_cases h4:r.take 1=[115]
       · simp [h4]
       · simp [h4]
     by_cases h4:c=115
     · subst h4; simp
     · simp [h1,h2,h3,h4])
theorem Qd {s:Str}{k n z:Nat} (h:fX s=some (k,n,z)):∃ nm,eA[k]?=some (nm,z)∧nm.length=n:=by
 unfold fX at h
 split at h <;> first | (cases h; done) | (simp only [Option.some.injEq,Prod.mk.injEq] at h; obtain ⟨rfl,rfl,rfl⟩:=h; exact ⟨_,rfl,rfl⟩)
theorem sY (s:Str) (h:s.length≤100000000):m8 s=some (lD s):=by
 unfold m8
 simp only [aV]
 refine (dZ (fun x:Str × Int × Int × Bool=>x.1.length≤100000000∧(0≤x.2.1∧x.2.1≤9007199254740993)∧(0≤x.2.2.1∧x.2.2.1≤5)) (fun x=>x.1.length)
  (fun x=>if x.1=[]∧x.2.2.2=true then (0,1) else AP x.1 x.2.2.1.toNat x.2.1) ?_ (by refine ⟨h,?_,?_⟩ <;> simp)).trans ?_
 ·rintro ⟨t,sum,fr,first⟩ ⟨ht,hs,hf⟩
  simp only at ht hs hf ⊢
  obtain ⟨fr,rfl⟩:=Int.eq_ofNat_of_zero_le hf.1
  simp only [Int.toNat_natCast]
  by_cases hgo:first=true ∨ t ≠ []
  ·rw [show (bif first then true else !decide (t=[]))=true from by cases first <;> simp_all]
   simp only [aZ]
   rw [MQ t ht,aC]
   simp only [aO]
   have e:=List.takeWhile_append_dropWhile (p:=isD) (l:=t)
   have hlen:=congrArg List.length e
   rw [List.length_append] at hlen
   have hdt:t.drop (t.takeWhile isD).length=t.dropWhile isD:=by
    conv=>lhs; arg 2; rw [← e]
    exact List.drop_left
   by_cases hds:t.takeWhile isD=[]
   ·left
    rw [if_pos (by rw [hds]; rfl)]
    by_cases h0:t=[]
    ·have hfi:first=true:=hgo.resolve_right (fun h=>h h0)
     rw [if_pos ⟨h0,hfi⟩]; rfl
    ·rw [if_neg (fun h=>h0 h.1),IG h0,if_pos hds]; rfl
   ·have hpos:0 < (t.takeWhile isD).length:=List.length_pos_iff.2 hds
    have h0:t ≠ []:=fun h=>by rw [h] at hds; exact hds rfl
    rw [if_neg (by omega),aM (by omega),if_neg (fun h=>h0 h.1),IG h0,if_neg hds]
    have hcut:(t.take t.length).drop (((t.takeWhile isD).length:Int)).toNat=t.dropWhile isD:=by simpa using hdt
    have hrest:(t.dropWhile isD).length≤100000000:=by omega
    have hstep:=@AU t
    simp only [hcut]
    generalize hrs:t.dropWhile isD=rest at *
    generalize hdg:t.takeWhile isD=ds at *
    have hval:0≤nF ds:=by rw [← hdg]; exact l8 _ (n3 t) (Int.le_refl 0)
    rw [dA 5 (fun i=>match fX rest with
     | none=>Sum.inr ((0:Int),(1:Int))
     | some (k,n,z)=>if fr≤k∧i≤k then Sum.inl (rest.drop n,min (sum + nF ds * z) 9007199254740993,(k:Int) + 1,false) else Sum.inr (0,1)) ?_ ?_]
    ·rcases hu:fX rest with _ | ⟨k,n,z⟩
     ·left; rfl
     ·simp only
      have hk:=vL hu
      by_cases h2:fr≤k
      ·right
       rw [if_pos ⟨h2,by omega⟩,if_pos h2]
       refine ⟨_,rfl,⟨?_,?_,?_⟩,?_,?_⟩
       ·simp only [List.length_drop]; omega
       ·have:=Int.mul_nonneg hval (show (0:Int)≤z by omega)
        simp only; omega
       ·simp only; omega
       ·have:=hstep hu hds
        simp only; omega
       ·simp only [Bool.false_eq_true,and_false,if_false]
        rw [show ((k:Int) + 1).toNat=k + 1 by omega]
        exact Pm (by omega)
      ·left
       rw [if_neg (fun h=>h2 h.1),if_neg h2]
    ·intro i hi
     obtain ⟨n,k,e1,_,_,hk,hn1,hn2⟩:=Jk i hi
     have hud:eA[i]?=some (n,k):=by
      have:i=0 ∨ i=1 ∨ i=2 ∨ i=3 ∨ i=4:=by omega
      rcases this with rfl | rfl | rfl | rfl | rfl <;> (cases e1; rfl)
     have hh:=Uj rest i n k hud
     rw [if_pos (by omega),a8 e1,bC (show -9223372036854775808≤(i:Int) + 1∧_ by omega),show (i:Int) + 1=((i + 1:Nat):Int) by omega]
     by_cases h1:(i:Int) < (fr:Int)
     ·right
      rw [if_pos h1]
      refine ⟨rfl,?_⟩
      rcases fX rest with _ | ⟨k',n',z'⟩
      ·rfl
      ·simp only
       by_cases h2:fr≤k'
       ·rw [if_pos ⟨h2,by omega⟩,if_pos ⟨h2,by omega⟩]
       ·rw [if_neg (fun h=>h2 h.1),if_neg (fun h=>h2 h.1)]
     ·rw [if_neg h1,Jj _ _ (by omega),aC,bP,aO]
      by_cases hit:fX rest=some (i,n.length,k)
      ·obtain ⟨g1,g2⟩:=hh.2 hit
       have hk2:=vL hit
       left
       rw [if_pos g1,hit]
       simp only
       rw [if_pos (show fr≤i∧i≤i from ⟨by omega,Nat.le_refl i⟩)]
       have hcd:(rest.take (rest.length:Int).toNat).drop ((n.length:Int)).toNat=rest.drop n.length:=by simp
       by_cases hm:n=[109]
       ·rw [if_pos hm,Jj _ _ (by omega),aC,aO,if_neg (show ¬ (rest.take ([109,115]:Str).length=[109,115]) from fun h=>g2 ⟨hm,h⟩),Hr hs hval hk,aC,aM (by omega),List.take_length]
        simp
       ·rw [if_neg hm,Hr hs hval hk,aC,aM (by omega),List.take_length]
        simp
      ·have hn:¬ (rest.take n.length=n∧¬ (n=[109]∧rest.take 2=[109,115])):=fun h=>hit (hh.1 h)
       right
       refine ⟨?_,?_⟩
       ·by_cases g1:rest.take n.length=n
        ·rw [if_pos g1]
         have g2:n=[109]∧rest.take 2=[109,115]:=Classical.byContradiction fun h=>hn ⟨g1,h⟩
         rw [if_pos g2.1,Jj _ _ (by omega),aC,aO,if_pos (show rest.take ([109,115]:Str).length=[109,115] from g2.2)]
         rfl
        ·rw [if_neg g1]; rfl
       ·have hkk:∀ k' n' z',fX rest=some (k',n',z')→k' ≠ i:=by
         intro k' n' z' hu he
         subst he
         obtain ⟨nm,g3,g4⟩:=Qd hu
         rw [hud] at g3
         cases g3
         exact hit (by rw [hu,g4])
        rcases hu:fX rest with _ | ⟨k',n',z'⟩
        ·rfl
        ·have:=hkk k' n' z' hu
         simp only
         by_cases h3:fr≤k'∧i≤k'
         ·rw [if_pos h3,if_pos ⟨h3.1,by omega⟩]
         ·rw [if_neg h3,if_neg (fun h=>h3 ⟨h.1,by omega⟩)]
    ·rw [if_neg (by omega)]
     rcases hu:fX rest with _ | ⟨k',n',z'⟩
     ·rfl
     ·have:=vL hu
      try simp only
      rw [if_neg (by omega)]; rfl
  ·left
   have hf2:first=false:=by cases first <;> simp_all
   have ht2:t=[]:=Classical.byContradiction fun h=>hgo (.inr h)
   subst hf2; subst ht2
   simp only [Bool.false_eq_true,and_false,if_false,Gm]
   simp only [decide_true,Bool.not_true,cond_false,bA]
   rw [vA,aC,bP]
   unfold o8
   by_cases h1:sum≤9007199254740992
   ·rw [if_pos h1,show tmB sum=true from m7.2 ⟨hs.1,h1⟩]; rfl
   ·rw [if_neg h1,show tmB sum=false from Bool.eq_false_iff.2 fun h=>h1 (m7.1 h).2]; rfl
 ·simp only [OX]
  simp
def isL (c:UInt8):Bool:=pV (c.toNat:Int)
theorem g6 (c:UInt8):p5 (c.toNat:Int)=some (isL c):=by
 unfold p5 isL pV
 simp only [aV,iA,n5,bI]
theorem gR (c:UInt8):pM (c.toNat:Int)=some (isD c):=by
 unfold pM isD
 simp only [aV,iA,bI]
 rw [show decide ((48:Int)≤(c.toNat:Int))=decide (48≤c.toNat) from by rw [decide_eq_decide]; omega,show decide ((c.toNat:Int)≤57)=decide (c.toNat≤57) from by rw [decide_eq_decide]; omega]
def isW (c:UInt8):Bool:=decide (c=32) || decide (c=9) || decide (c=13) || decide (c=10)
theorem zT (c:UInt8):wX (c.toNat:Int)=some (isW c):=by
 unfold wX isW
 simp only [aV,n5,bI]
 have h1:=Bq c 32 (by decide)
 have h2:=Bq c 9 (by decide)
 have h3:=Bq c 13 (by decide)
 have h4:=Bq c 10 (by decide)
 simp only [Int.cast_ofNat_Int] at h1 h2 h3 h4
 rw [h1,h2,h3,h4]; rfl
theorem xV {σ β:Type}{ph:σ→List (Nat × AV)}{ob:σ→List Obj}{step:σ→Option (σ ⊕ β)}{s s':σ} (h:step s=some (.inl s')):bQ ph ob step s=bQ ph ob step s':=by
 unfold bQ; rw [Bt,h]; rfl
theorem l7 {σ β:Type}{ph:σ→List (Nat × AV)}{ob:σ→List Obj}{step:σ→Option (σ ⊕ β)}{s:σ}{r:β} (h:step s=some (.inr r)):bQ ph ob step s=some r:=by
 unfold bQ; rw [Bt,h]; rfl
theorem HN {s:Str}{a:Nat}{c:UInt8} (h:s[a]?=some c) (hs:s.length≤100000000) (hc:isW c=true):dX s (a:Int)=dX s ((a + 1:Nat):Int):=by
 have ha:=(List.getElem?_eq_some_iff.1 h).1
 refine xV ?_
 simp only [aV,aO]
 rw [if_pos (by omega),a8 h,zT,aC,hc,aZ,bC (by omega)]
 rfl
theorem AL {s:Str}{a:Nat}{c:UInt8} (h:s[a]?=some c) (hc:isW c=false) (h35:c ≠ 35):dX s (a:Int)=some (a:Int):=by
 have ha:=(List.getElem?_eq_some_iff.1 h).1
 refine l7 ?_
 simp only [aV,aO]
 have hk:=gW c 35 (by decide)
 simp only [Int.cast_ofNat_Int] at hk
 rw [if_pos (by omega),a8 h,zT,aC,hc,bA,if_neg (fun e=>h35 (hk.1 e))]
 rfl
theorem Mb {s:Str}{a:Nat} (h:s.length≤a):dX s (a:Int)=some (a:Int):=by
 refine l7 ?_
 simp only [aV,aO]
 rw [if_neg (by omega)]
 rfl
def isR (p:Bool) (c:UInt8):Bool:=isL c || isD c || (p && decide (c=46))
theorem Ct (s:Str) (p:Bool) (hs:s.length≤100000000):oI s p=some (1 + ((s.drop 1).takeWhile (isR p)).length:Int):=by
 unfold oI
 simp only [aV]
 refine (dZ (fun x:Bool × Int=>x.1=p∧1≤x.2∧x.2≤s.length + 1) (fun x=>s.length + 2 - x.2.toNat) (fun x=>x.2 + (((s.drop x.2.toNat).takeWhile (isR x.1)).length:Int)) ?_ (by simp only; refine ⟨trivial,?_,?_⟩ <;> omega)).trans (by simp)
 rintro ⟨q,i⟩ ⟨hq,h0,h1⟩
 simp only at hq h0 h1 ⊢
 subst hq
 obtain ⟨n,rfl⟩:=Int.eq_ofNat_of_zero_le (show 0≤i by omega)
 simp only [aO,Int.toNat_natCast]
 by_cases hl:n < s.length
 ·rw [if_pos (by omega),a8 (bJ hl),g6,aC,dI hl,List.takeWhile_cons,gR]
  have hk:=Bq (nth s n) 46 (by decide)
  simp only [Int.cast_ofNat_Int] at hk
  have hk:decide (((nth s n).toNat:Int)=46)=decide (nth s n=46):=hk
  have hR:isR q (nth s n)=(isL (nth s n) || isD (nth s n) || (q && decide (nth s n=46))):=rfl
  have e:((n:Int) + 1)=((n + 1:Nat):Int):=by omega
  rw [bC (by omega),e,hR]
  rw [hk]
  generalize isL (nth s n)=b1
  generalize isD (nth s n)=b2
  generalize decide (nth s n=46)=b3
  have fin:∃ s':Bool × Int,(some (Sum.inl (q,((n + 1:Nat):Int))):Option (Bool × Int ⊕ Int))=some (.inl s')∧(s'.1=q∧1≤s'.2∧s'.2≤(s.length:Int) + 1)∧s.length + 2 - s'.2.toNat < s.length + 2 - n ∧
    s'.2 + (((s.drop s'.2.toNat).takeWhile (isR s'.1)).length:Int)=(n:Int) + ((nth s n :: (s.drop (n + 1)).takeWhile (isR q)).length:Int) :=
   ⟨(q,((n + 1:Nat):Int)),rfl,⟨rfl,by simp only; omega,by simp only; omega⟩,by simp only; omega,by simp only [Int.toNat_natCast,List.length_cons]; omega⟩
  cases q <;> cases b1 <;> cases b2 <;> cases b3 <;> first | (left; rfl) | (left; simp; done) | (right; exact fin) | skip
 ·left
  rw [if_neg (by omega),List.drop_eq_nil_of_le (by omega)]
  simp
theorem Sb (v t:Str) (k:Nat):(dC v ++ t).drop (1 + ((v.take k).flatMap eI).length)=(v.drop k).flatMap eI ++ 34 :: t:=by
 unfold dC
 conv=>lhs; rw [← List.take_append_drop k v]
 rw [List.flatMap_append,List.take_append_drop]
 rw [show (34 :: ((v.take k).flatMap eI ++ (v.drop k).flatMap eI ++ [34]) ++ t:Str)=(34 :: (v.take k).flatMap eI) ++ ((v.drop k).flatMap eI ++ 34 :: t) from by simp]
 rw [List.drop_append_of_le_length (by simp; omega),List.drop_eq_nil_of_le (by simp; omega)]
 rfl
theorem Lu:∀ (v:Str),v.length≤(v.flatMap eI).length
 | []=>by simp
 | c :: v=>by
  rw [List.flatMap_cons,List.length_append,List.length_cons]
  have:=(Gi c).1
  have:=Lu v
  omega
theorem Ny (v t:Str) (h:(dC v ++ t).length≤100000000):nW (dC v ++ t)=some (v,((dC v).length:Int),0):=by
 have hD:=Sb v t
 have hq:(dC v).length=2 + (v.flatMap eI).length:=by simp [dC]; omega
 rw [List.length_append] at h
 unfold nW
 generalize hs:dC v ++ t=s at *
 have hsl:s.length=(dC v).length + t.length:=by rw [← hs,List.length_append]
 simp only [aV,eU,sC]
 refine dZ (fun x:List Int × Int=>∃ k,k≤v.length∧x.2=1 + (((v.take k).flatMap eI).length:Int)∧x.1.length≤k∧eO x.1=v.take k) (fun x=>s.length - x.2.toNat) (fun _=>(v,((dC v).length:Int),0)) ?_ ⟨0,by omega,by simp,by simp,rfl⟩
 rintro ⟨acc,i⟩ ⟨k,hk,hi,hal,hst⟩
 simp only at hi hal hst
 have hd:=hD k
 have hle:((v.take k).flatMap eI).length≤(v.flatMap eI).length:=by
  conv=>rhs; rw [← List.take_append_drop k v,List.flatMap_append,List.length_append]
  omega
 have hg:∀ j,s[1 + ((v.take k).flatMap eI).length + j]?=((v.drop k).flatMap eI ++ 34 :: t)[j]?:=fun j=>by rw [← hd,List.getElem?_drop]
 have hlen2:((v.take k).flatMap eI).length + ((v.drop k).flatMap eI).length=(v.flatMap eI).length:=by
  conv=>rhs; rw [← List.take_append_drop k v,List.flatMap_append,List.length_append]
 have hvl:=Lu v
 subst hi
 obtain ⟨n,hn⟩:∃ n,n=1 + ((v.take k).flatMap eI).length:=⟨_,rfl⟩
 rw [← hn] at hg
 simp only [show (1 + (((v.take k).flatMap eI).length:Int))=(n:Int) by omega,aO,bP]
 rcases Nat.lt_or_ge k v.length with hkv | hkv
 ·right
  rw [dI hkv] at hg hlen2
  rw [List.flatMap_cons] at hg hlen2
  rw [List.length_append] at hlen2
  have ht1:v.take (k + 1)=v.take k ++ [nth v k]:=by
   rw [List.take_succ,bJ hkv]; rfl
  have hfl:(((v.take (k + 1)).flatMap eI).length:Int)=(((v.take k).flatMap eI).length:Int) + ((eI (nth v k)).length:Int):=by rw [ht1]; simp
  have hone:=Gi (nth v k)
  rw [if_pos (by omega)]
  generalize hc:nth v k=c at *
  by_cases k1:c=92
  ·subst k1
   have g0:s[n]?=some 92:=by have:=hg 0; simpa [eI] using this
   have g1:s[n + 1]?=some 92:=by have:=hg 1; simpa [eI] using this
   have hl2:(eI 92).length=2:=rfl
   rw [a8 g0,if_neg (by decide),if_neg (by decide),if_pos (by decide),bC (by omega),if_neg (by omega),show (n:Int) + 1=((n + 1:Nat):Int) by omega,a8 g1,if_pos (by decide),a8 g1,aM (by simp; omega),bC (by omega)]
   refine ⟨_,rfl,⟨k + 1,by omega,by simp only; rw [hfl,hl2]; omega,by simp; omega,?_⟩,by simp only; omega,trivial⟩
   rw [eL,hst,ht1]; rfl
  by_cases k2:c=34
  ·subst k2
   have g0:s[n]?=some 92:=by have:=hg 0; simpa [eI] using this
   have g1:s[n + 1]?=some 34:=by have:=hg 1; simpa [eI] using this
   have hl2:(eI 34).length=2:=rfl
   rw [a8 g0,if_neg (by decide),if_neg (by decide),if_pos (by decide),bC (by omega),if_neg (by omega),show (n:Int) + 1=((n + 1:Nat):Int) by omega,a8 g1,if_neg (by decide),a8 g1,if_pos (by decide),a8 g1,aM (by simp; omega),bC (by omega)]
   refine ⟨_,rfl,⟨k + 1,by omega,by simp only; rw [hfl,hl2]; omega,by simp; omega,?_⟩,by simp only; omega,trivial⟩
   rw [eL,hst,ht1]; rfl
  by_cases k3:c=10
  ·subst k3
   have g0:s[n]?=some 92:=by have:=hg 0; simpa [eI] using this
   have g1:s[n + 1]?=some 110:=by have:=hg 1; simpa [eI] using this
   have hl2:(eI 10).length=2:=rfl
   rw [a8 g0,if_neg (by decide),if_neg (by decide),if_pos (by decide),bC (by omega),if_neg (by omega),show (n:Int) + 1=((n + 1:Nat):Int) by omega,a8 g1,if_neg (by decide),a8 g1,if_neg (by decide),a8 g1,if_pos (by decide),aM (by simp; omega),bC (by omega)]
   refine ⟨_,rfl,⟨k + 1,by omega,by simp only; rw [hfl,hl2]; omega,by simp; omega,?_⟩,by simp only; omega,trivial⟩
   rw [eL,hst,ht1]; rfl
  ·have he:eI c=[c]:=by unfold eI; rw [if_neg k1,if_neg k2,if_neg k3]
   have g0:s[n]?=some c:=by have:=hg 0; simpa [he] using this
   have u1:=gW c 34 (by decide)
   have u2:=gW c 10 (by decide)
   have u3:=gW c 92 (by decide)
   simp only [Int.cast_ofNat_Int] at u1 u2 u3
   have hl2:(eI c).length=1:=by rw [he]; rfl
   rw [a8 g0,if_neg (fun e=>k2 (u1.1 e)),if_neg (fun e=>k3 (u2.1 e)),if_neg (fun e=>k1 (u3.1 e)),aM (by simp; omega),bC (by omega)]
   refine ⟨_,rfl,⟨k + 1,by omega,by simp only; rw [hfl,hl2]; omega,by simp; omega,?_⟩,by simp only; omega,trivial⟩
   rw [eL,hst,ht1,JX]
 ·left
  have hkk:k=v.length:=by omega
  subst hkk
  rw [List.take_length] at hst hn
  have g0:s[n]?=some 34:=by have:=hg 0; simpa using this
  rw [if_pos (by omega),a8 g0,if_pos (by decide),bC (by omega),hst]
  simp only [bI,iP,Option.some.injEq,Sum.inr.injEq,Prod.mk.injEq,true_and,and_true]
  omega
theorem NC {t:Str}{c:UInt8} (h:t[0]?=some c) (hc:isL c=true):dD t=some (1,0):=by
 unfold dD
 rw [gL (x:=c) (by omega) (by simpa using h),g6,aC,hc]; rfl
theorem Qr {t:Str}{c:UInt8} (h:t[0]?=some c) (hc:isL c=false) (hd:isD c=true):dD t=some (2,0):=by
 unfold dD
 rw [gL (x:=c) (by omega) (by simpa using h),g6,aC,hc,bA,gR,aC,hd]; rfl
theorem Qq {t:Str}{d:UInt8} (h:t[0]?=some 45) (h1:t[1]?=some d) (hd:isD d=true):dD t=some (2,0):=by
 have hl:=(List.getElem?_eq_some_iff.1 h1).1
 unfold dD
 rw [gL (x:=45) (by omega) (by simpa using h),g6,aC,show isL 45=false from by decide,bA,gR,aC,show isD 45=false from by decide,bA]
 simp only [aV]
 rw [show (bif decide (((45:UInt8).toNat:Int)=45) then decide ((1:Int) < (t.length:Int)) else false)=true from by
  rw [show decide (((45:UInt8).toNat:Int)=45)=true from by decide]; simp; omega]
 rw [aZ,gL (x:=d) (by omega) (by simpa using h1),gR,aC,hd]; rfl
theorem NB {t:Str} (h:t[0]?=some 34):dD t=some (3,0):=by
 unfold dD
 rw [gL (x:=34) (by omega) (by simpa using h),g6,aC,show isL 34=false from by decide,bA,gR,aC,show isD 34=false from by decide,bA]
 simp only [aV]
 rw [show (bif decide (((34:UInt8).toNat:Int)=45) then decide ((1:Int) < (t.length:Int)) else false)=false from by
  rw [show decide (((34:UInt8).toNat:Int)=45)=false from by decide]; rfl]
 rfl
theorem LS {t:Str}{c:UInt8} (h:t[0]?=some c) (hc:isL c=false∧isD c=false∧c ≠ 45∧c ≠ 34∧¬ 0≤Lib.indexByte [61,33,60,62] c∧0≤Lib.indexByte [123,125,40,41,44,58,59,61,60,62] c):dD t=some (4,1):=by
 obtain ⟨h1,h2,h3,h4,h5,h6⟩:=hc
 have u1:=gW c 45 (by decide)
 have u2:=gW c 34 (by decide)
 simp only [Int.cast_ofNat_Int] at u1 u2
 unfold dD
 rw [gL (x:=c) (by omega) (by simpa using h),g6,aC,h1,bA,gR,aC,h2,bA]
 simp only [aV]
 rw [show decide ((c.toNat:Int)=45)=false from by rw [decide_eq_false_iff_not]; exact fun e=>h3 (u1.1 e),show decide ((c.toNat:Int)=34)=false from by rw [decide_eq_false_iff_not]; exact fun e=>h4 (u2.1 e)]
 simp only [cond_false,bA]
 have hcc:(c.toNat:Int).toNat.toUInt8=c:=by simp
 unfold strings_IndexByte
 rw [hcc]
 simp only [aC,aO]
 rw [show decide ((0:Int)≤Lib.indexByte (bs [61,33,60,62]).data.toList c)=false from by rw [decide_eq_false_iff_not]; exact h5]
 simp only [cond_false,bA]
 have h6':0≤Lib.indexByte (bs [123,125,40,41,44,58,59,61,60,62]).data.toList c:=h6
 rw [if_pos h6']
 rfl
theorem Lz {t:Str}{c:UInt8} (h:t[0]?=some c) (ht:t[1]?=some 61) (hc:isL c=false∧isD c=false∧c ≠ 45∧c ≠ 34∧0≤Lib.indexByte [61,33,60,62] c):dD t=some (4,2):=by
 obtain ⟨h1,h2,h3,h4,h5⟩:=hc
 have u1:=gW c 45 (by decide)
 have u2:=gW c 34 (by decide)
 simp only [Int.cast_ofNat_Int] at u1 u2
 have hl:=(List.getElem?_eq_some_iff.1 ht).1
 unfold dD
 rw [gL (x:=c) (by omega) (by simpa using h),g6,aC,h1,bA,gR,aC,h2,bA]
 simp only [aV]
 rw [show decide ((c.toNat:Int)=45)=false from by rw [decide_eq_false_iff_not]; exact fun e=>h3 (u1.1 e),show decide ((c.toNat:Int)=34)=false from by rw [decide_eq_false_iff_not]; exact fun e=>h4 (u2.1 e)]
 simp only [cond_false,bA]
 have hcc:(c.toNat:Int).toNat.toUInt8=c:=by simp
 unfold strings_IndexByte
 rw [hcc]
 simp only [aC]
 rw [show decide ((0:Int)≤Lib.indexByte (bs [61,33,60,62]).data.toList c)=true from by rw [decide_eq_true_eq]; exact h5,show decide ((1:Int) < (t.length:Int))=true from by rw [decide_eq_true_eq]; omega]
 simp only [cond_true,aZ]
 rw [gL (x:=61) (by omega) (by simpa using ht)]
 rfl
theorem Ls {t:Str}{c d:UInt8} (h:t[0]?=some c) (ht:t[1]?=some d) (hd:d ≠ 61) (hc:isL c=false∧isD c=false∧c ≠ 45∧c ≠ 34∧0≤Lib.indexByte [61,33,60,62] c∧0≤Lib.indexByte [123,125,40,41,44,58,59,61,60,62] c):dD t=some (4,1):=by
 obtain ⟨h1,h2,h3,h4,h5,h6⟩:=hc
 have u1:=gW c 45 (by decide)
 have u2:=gW c 34 (by decide)
 have u3:=gW d 61 (by decide)
 simp only [Int.cast_ofNat_Int] at u1 u2 u3
 have hl:=(List.getElem?_eq_some_iff.1 ht).1
 unfold dD
 rw [gL (x:=c) (by omega) (by simpa using h),g6,aC,h1,bA,gR,aC,h2,bA]
 simp only [aV]
 rw [show decide ((c.toNat:Int)=45)=false from by rw [decide_eq_false_iff_not]; exact fun e=>h3 (u1.1 e),show decide ((c.toNat:Int)=34)=false from by rw [decide_eq_false_iff_not]; exact fun e=>h4 (u2.1 e)]
 simp only [cond_false,bA]
 have hcc:(c.toNat:Int).toNat.toUInt8=c:=by simp
 unfold strings_IndexByte
 rw [hcc]
 simp only [aC]
 rw [show decide ((0:Int)≤Lib.indexByte (bs [61,33,60,62]).data.toList c)=true from by rw [decide_eq_true_eq]; exact h5,show decide ((1:Int) < (t.length:Int))=true from by rw [decide_eq_true_eq]; omega]
 simp only [cond_true,aZ]
 rw [gL (x:=d) (by omega) (by simpa using ht)]
 simp only [aO]
 have h6':0≤Lib.indexByte (bs [123,125,40,41,44,58,59,61,60,62]).data.toList c:=h6
 rw [if_neg (fun e=>hd (u3.1 e)),if_pos h6']
 rfl
noncomputable def yI (a0:Str) (x2:(List aN) × Int):Option ((List aN) × Int ⊕ (List aN) × Int × Int) :=
 aA vI ((a0.length:Int)) fun x3=>
 aA vB (decide (x2.2 < x3)) fun x4=>
 aF x4 (
 aA vI ((x2.1.length:Int)) fun x5=>
 aA vB (decide (x5=(65536:Int))) fun x6=>
 aF x6 (
 aQ<|
 aG (x2.1,x2.2,(4:Int))) (
 gdM (0≤x2.2∧x2.2≤(a0.length:Int)∧(a0.length:Int)≤(a0.length:Int))<|
 aA vS ((a0.take (a0.length:Int).toNat).drop x2.2.toNat) fun x7=>
 aJ (fun x8=>.tup [vI x8.1,vI x8.2]) (fun x8=>[tk x2.1.length 3 74]) (dD x7) fun x8=>
 aA vB (decide (x8.1=(0:Int))) fun x9=>
 aF x9 (
 aQ<|
 aG (x2.1,x2.2,(1:Int))) (
 aA vB (decide (x8.1=(3:Int))) fun x10=>
 aF x10 (
 gdM (0≤x2.2∧x2.2≤(a0.length:Int)∧(a0.length:Int)≤(a0.length:Int))<|
 aA vS ((a0.take (a0.length:Int).toNat).drop x2.2.toNat) fun x11=>
 aJ (fun x12=>.tup [vS x12.1,vI x12.2.1,vI x12.2.2]) (fun x12=>[tk x2.1.length 3 74]) (nW x11) fun x12=>
 aA vB (!decide (x12.2.2=(0:Int))) fun x13=>
 aF x13 (
 aA vI (wI (x2.2 + x12.2.1)) fun x14=>
 aQ<|
 aG (x2.1,x14,x12.2.2)) (
 aA (sx aB) ([(⟨x8.1,x2.2,x12.1⟩:aN)]:(List aN)) fun x15=>
 gdM ((x2.1.length + x15.length) * 32≤140737488355328)<|
 d7 (so 0 aB) (fun x16=>[tk x16.length 3 74]) (x2.1 ++ x15) fun x16=>
 aA vI (wI (x2.2 + x12.2.1)) fun x17=>
 aJ vI (fun x18=>[tk x16.length 3 74]) (dX a0 x17) fun x18=>
 aW (x16,x18))) (
 aA vB (decide (x8.1=(1:Int))) fun x19=>
 aF x19 (
 gdM (0≤x2.2∧x2.2≤(a0.length:Int)∧(a0.length:Int)≤(a0.length:Int))<|
 aA vS ((a0.take (a0.length:Int).toNat).drop x2.2.toNat) fun x20=>
 aA vB (decide (x8.1=(2:Int))) fun x21=>
 aJ vI (fun x22=>[tk x2.1.length 3 74]) (oI x20 x21) fun x22=>
 aA vI (wI (x2.2 + x22)) fun x23=>
 gdM (0≤x2.2∧x2.2≤x23∧x23≤(a0.length:Int))<|
 aA vS ((a0.take x23.toNat).drop x2.2.toNat) fun x24=>
 aA (sx aB) ([(⟨x8.1,x2.2,x24⟩:aN)]:(List aN)) fun x25=>
 gdM ((x2.1.length + x25.length) * 32≤140737488355328)<|
 d7 (so 0 aB) (fun x26=>[tk x26.length 3 74]) (x2.1 ++ x25) fun x26=>
 aA vI (wI (x2.2 + x22)) fun x27=>
 aJ vI (fun x28=>[tk x26.length 3 74]) (dX a0 x27) fun x28=>
 aW (x26,x28)) (
 aA vB (decide (x8.1=(2:Int))) fun x29=>
 aF x29 (
 gdM (0≤x2.2∧x2.2≤(a0.length:Int)∧(a0.length:Int)≤(a0.length:Int))<|
 aA vS ((a0.take (a0.length:Int).toNat).drop x2.2.toNat) fun x30=>
 aA vB (decide (x8.1=(2:Int))) fun x31=>
 aJ vI (fun x32=>[tk x2.1.length 3 74]) (oI x30 x31) fun x32=>
 aA vI (wI (x2.2 + x32)) fun x33=>
 gdM (0≤x2.2∧x2.2≤x33∧x33≤(a0.length:Int))<|
 aA vS ((a0.take x33.toNat).drop x2.2.toNat) fun x34=>
 aA (sx aB) ([(⟨x8.1,x2.2,x34⟩:aN)]:(List aN)) fun x35=>
 gdM ((x2.1.length + x35.length) * 32≤140737488355328)<|
 d7 (so 0 aB) (fun x36=>[tk x36.length 3 74]) (x2.1 ++ x35) fun x36=>
 aA vI (wI (x2.2 + x32)) fun x37=>
 aJ vI (fun x38=>[tk x36.length 3 74]) (dX a0 x37) fun x38=>
 aW (x36,x38)) (
 aA vI (wI (x2.2 + x8.2)) fun x39=>
 gdM (0≤x2.2∧x2.2≤x39∧x39≤(a0.length:Int))<|
 aA vS ((a0.take x39.toNat).drop x2.2.toNat) fun x40=>
 aA (sx aB) ([(⟨x8.1,x2.2,x40⟩:aN)]:(List aN)) fun x41=>
 gdM ((x2.1.length + x41.length) * 32≤140737488355328)<|
 d7 (so 0 aB) (fun x42=>[tk x42.length 3 74]) (x2.1 ++ x41) fun x42=>
 aA vI (wI (x2.2 + x8.2)) fun x43=>
 aJ vI (fun x44=>[tk x42.length 3 74]) (dX a0 x43) fun x44=>
 aW (x42,x44))))))) (
 aQ<|
 aA vI ((a0.length:Int)) fun x45=>
 aG (x2.1,x45,(0:Int)))
theorem N4 (a0:Str):m4 a0=aJ vI (fun x1=>[]) (dX a0 (0:Int)) fun x1=>bQ (fun (x2:(List aN) × Int)=>[(0,vS a0),(5,so 0 aB x2.1),(6,vI x2.2)]) (fun (x2:(List aN) × Int)=>[tk x2.1.length 3 74]) (yI a0) (([]:List aN),x1):=rfl
inductive Lx:Str→Nat→List aN→Prop
 | nil (a:Nat):Lx [] a []
 | sp {c:UInt8}{t:Str}{a:Nat}{l:List aN} (hc:isW c=true) (h:Lx t (a + 1) l):Lx (c :: t) a l
 | run {w t:Str}{a:Nat}{l:List aN}{k:Int} (hk:k=1 ∨ k=2) (hw:∃ c w',w=c :: w'∧isW c=false∧c ≠ 35) (h1:dD (w ++ t)=some (k,0)) (h2:oI (w ++ t) (decide (k=2))=some (w.length:Int)) (h:Lx t (a + w.length) l):Lx (w ++ t) a (⟨k,a,w⟩ :: l)
 | text {v t:Str}{a:Nat}{l:List aN} (h:Lx t (a + (dC v).length) l):Lx (dC v ++ t) a (⟨3,a,v⟩ :: l)
 | sign {w t:Str}{a:Nat}{l:List aN} (hw:∃ c w',w=c :: w'∧isW c=false∧c ≠ 35) (h1:dD (w ++ t)=some (4,(w.length:Int))) (h:Lx t (a + w.length) l):Lx (w ++ t) a (⟨4,a,w⟩ :: l)
theorem CD {σ β α:Type}{ph:σ→List (Nat × AV)}{ob:σ→List Obj}{step:σ→Option (σ ⊕ β)}{s:σ}{enc:α→AV}{ob1 ob2:α→List Obj}{e:Option α}{g:α→σ} (h:step s=aJ enc ob1 e fun x=>aW (g x)):bQ ph ob step s=aJ enc ob2 e fun x=>bQ ph ob step (g x):=by
 unfold bQ
 rw [Bt,h]
 cases e <;> rfl
theorem Uh (s:Str) (hs:s.length≤100000000) {t:Str}{a:Nat}{l:List aN} (h:Lx t a l):s.drop a=t→a≤s.length→∀ acc:List aN,acc.length + l.length≤60000 →
  (aJ vI (fun x1=>[]) (dX s (a:Int)) fun x1=>bQ (fun (x2:(List aN) × Int)=>[(0,vS s),(5,so 0 aB x2.1),(6,vI x2.2)]) (fun (x2:(List aN) × Int)=>[tk x2.1.length 3 74]) (yI s) (acc,x1))=some (acc ++ l,(s.length:Int),0):=by
 induction h with
 | nil a=>
  intro hd ha acc hl
  have hal:s.length≤a:=by have:=congrArg List.length hd; simp at this; omega
  rw [Mb hal,aC]
  refine l7 ?_
  unfold yI
  simp only [aV,aO]
  rw [if_neg (by omega)]
  simp
 | @sp c t a l hc h ih=>
  intro hd ha acc hl
  have g:s[a]?=some c:=by have:=congrArg (·[0]?) hd; simpa [List.getElem?_drop] using this
  have hlt:=(List.getElem?_eq_some_iff.1 g).1
  rw [HN g hs hc]
  exact ih (by rw [← List.drop_drop,hd]; rfl) (by omega) acc hl
 | @run w t a l k hk hw h1 h2 h ih=>
  intro hd ha acc hl
  obtain ⟨c,w',rfl,hc1,hc2⟩:=hw
  have g:s[a]?=some c:=by have:=congrArg (·[0]?) hd; simpa [List.getElem?_drop] using this
  have hlt:=(List.getElem?_eq_some_iff.1 g).1
  rw [AL g hc1 hc2,aC]
  have hlen:s.length=a + ((c :: w').length + t.length):=by have:=congrArg List.length hd; rw [List.length_drop,List.length_append] at this; omega
  have ih2:=ih (by rw [← List.drop_drop,hd,List.drop_left]) (by omega) (acc ++ [⟨k,a,c :: w'⟩]) (by simp only [List.length_append,List.length_cons,List.length_nil] at hl ⊢; omega)
  rw [List.append_assoc] at ih2
  refine Eq.trans (CD (ob1:=fun _=>[]) ?_) ih2
  have hcut:(s.take (s.length:Int).toNat).drop (a:Int).toNat=c :: w' ++ t:=by simpa using hd
  unfold yI
  simp only [aV,eU,aO]
  rw [if_pos (by omega),if_neg (by simp only [List.length_cons] at hl; omega),aM (by omega),hcut,h1,aC]
  have hpc:(s.take ((a:Int) + ((c :: w').length:Int)).toNat).drop (a:Int).toNat=c :: w':=by
   rw [Int.toNat_natCast,show ((a:Int) + ((c :: w').length:Int)).toNat=a + (c :: w').length by omega,List.drop_take,hd,show a + (c :: w').length - a=(c :: w').length by omega,List.take_left]
  rcases hk with rfl | rfl
  ·rw [if_neg (by decide),if_neg (by decide),if_pos rfl,aM (by omega),h2,aC,bC (by omega),aM (by omega),hpc,aM (by simp only [List.length_cons,List.length_nil] at hl ⊢; omega)]
   rw [show (a:Int) + ((c :: w').length:Int)=((a + (c :: w').length:Nat):Int) by omega]
   rfl
  ·rw [if_neg (by decide),if_neg (by decide),if_neg (by decide),if_pos rfl,aM (by omega),h2,aC,bC (by omega),aM (by omega),hpc,aM (by simp only [List.length_cons,List.length_nil] at hl ⊢; omega)]
   rw [show (a:Int) + ((c :: w').length:Int)=((a + (c :: w').length:Nat):Int) by omega]
   rfl
 | @text v t a l h ih=>
  intro hd ha acc hl
  have g:s[a]?=some 34:=by have:=congrArg (·[0]?) hd; simpa [List.getElem?_drop,dC] using this
  have hlt:=(List.getElem?_eq_some_iff.1 g).1
  rw [AL g (by decide) (by decide),aC]
  have hlen:s.length=a + ((dC v).length + t.length):=by have:=congrArg List.length hd; rw [List.length_drop,List.length_append] at this; omega
  have ih2:=ih (by rw [← List.drop_drop,hd,List.drop_left]) (by omega) (acc ++ [⟨3,a,v⟩]) (by simp only [List.length_append,List.length_cons,List.length_nil] at hl ⊢; omega)
  rw [List.append_assoc] at ih2
  refine Eq.trans (CD (ob1:=fun _=>[]) ?_) ih2
  have hcut:(s.take (s.length:Int).toNat).drop (a:Int).toNat=dC v ++ t:=by simpa using hd
  unfold yI
  simp only [aV,eU,aO,bP]
  rw [if_pos (by omega),if_neg (by simp only [List.length_cons] at hl; omega),aM (by omega),hcut,NB (t:=dC v ++ t) (by simp [dC]),aC]
  have hqq:(dC v ++ t).length≤100000000:=by rw [List.length_append]; omega
  dsimp only
  rw [if_neg (by decide),if_pos rfl,aM (by omega),Ny v t hqq,aC]
  dsimp only
  rw [if_pos rfl,aM (by simp only [List.length_cons,List.length_nil] at hl ⊢; omega),bC (by omega)]
  rw [show (a:Int) + ((dC v).length:Int)=((a + (dC v).length:Nat):Int) by omega]
  rfl
 | @sign w t a l hw h1 h ih=>
  intro hd ha acc hl
  obtain ⟨c,w',rfl,hc1,hc2⟩:=hw
  have g:s[a]?=some c:=by have:=congrArg (·[0]?) hd; simpa [List.getElem?_drop] using this
  have hlt:=(List.getElem?_eq_some_iff.1 g).1
  rw [AL g hc1 hc2,aC]
  have hlen:s.length=a + ((c :: w').length + t.length):=by have:=congrArg List.length hd; rw [List.length_drop,List.length_append] at this; omega
  have ih2:=ih (by rw [← List.drop_drop,hd,List.drop_left]) (by omega) (acc ++ [⟨4,a,c :: w'⟩]) (by simp only [List.length_append,List.length_cons,List.length_nil] at hl ⊢; omega)
  rw [List.append_assoc] at ih2
  refine Eq.trans (CD (ob1:=fun _=>[]) ?_) ih2
  have hcut:(s.take (s.length:Int).toNat).drop (a:Int).toNat=(c :: w') ++ t:=by simpa using hd
  unfold yI
  simp only [aV,eU,aO,bP]
  rw [if_pos (by omega),if_neg (by simp only [List.length_cons] at hl; omega),aM (by omega),hcut,h1,aC]
  have hpc:(s.take ((a:Int) + ((c :: w').length:Int)).toNat).drop (a:Int).toNat=c :: w':=by
   rw [Int.toNat_natCast,show ((a:Int) + ((c :: w').length:Int)).toNat=a + (c :: w').length by omega,List.drop_take,hd,show a + (c :: w').length - a=(c :: w').length by omega,List.take_left]
  dsimp only
  rw [if_neg (by decide),if_neg (by decide),if_neg (by decide),if_neg (by decide),bC (by omega),aM (by omega),hpc,aM (by simp only [List.length_cons,List.length_nil] at hl ⊢; omega)]
  rw [show (a:Int) + ((c :: w').length:Int)=((a + (c :: w').length:Nat):Int) by omega]
  rfl
theorem GY (s:Str) (hs:s.length≤100000000) {l:List aN} (h:Lx s 0 l) (hl:l.length≤60000):m4 s=some (l,(s.length:Int),0):=by
 rw [N4]
 have:=Uh s hs h (by simp) (by omega) [] (by simpa using hl)
 simpa using this
abbrev Kt:=Int × Str
inductive Pr (α:Type) | er (t:List Kt) (e:Int) | ok (a:α) (t:List Kt)
def isT (k:Int) (s:Str):List Kt→Bool
 | []=>false
 | x :: _=>decide (x.1=k) && decide (x.2=s)
def wrE:List Kt→Int
 | []=>3
 | _ :: _=>1
def wr {α:Type} (t:List Kt):Pr α:=.er t (wrE t)
def pO:List Kt→Pr Str
 | []=>.er [] 3
 | x :: r=>if x.1=1 then (if cJ x.2 then .ok x.2 r else .er (x :: r) 7) else .er (x :: r) 1
def zI (n:Nat) (nm:Str) (nt:Bool):List Kt→Pr bS
 | []=>.er [] 3
 | x :: r=>if x.1=3 then (if 64 < x.2.length ∨ 8≤n then .er (x :: r) 4 else .ok ⟨nm,x.2,nt⟩ r) else .er (x :: r) 1
def tL (n:Nat) (t:List Kt):Pr bS :=
 match pO t with
 | .er u e=>.er u e
 | .ok nm u=>if isT 4 [33,61] u then zI n nm true u.tail else if isT 4 [61] u then zI n nm false u.tail else wr u
def uB (nm:Str):Nat→List bS→List Kt→Pr cT
 | 0,acc,t=>match tL acc.length t with
  | .er u e=>.er u e
  | .ok _ _=>.er t 4
 | f + 1,acc,t=>match tL acc.length t with
  | .er u e=>.er u e
  | .ok m u=>if isT 4 [125] u then .ok ⟨nm,acc ++ [m]⟩ u.tail else if isT 4 [44] u then uB nm f (acc ++ [m]) u.tail else wr u
def Eg (t:List Kt):Pr cT :=
 match pO t with
 | .er u e=>.er u e
 | .ok nm u=>if isT 4 [123] u then (if isT 4 [125] u.tail then .ok ⟨nm,[]⟩ u.tail.tail else uB nm 8 [] u.tail) else .ok ⟨nm,[]⟩ u
def opB (s:Str):Int:=if s=[62] then 1 else if s=[62,61] then 2 else if s=[60] then 3 else if s=[60,61] then 4 else if s=[61,61] then 5 else if s=[33,61] then 6 else 0
def opP:List Kt→Int
 | []=>0
 | x :: _=>if x.1=4 then opB x.2 else 0
def yN (s:cT) (k:Int):List Kt→Pr cG
 | []=>.er [] 3
 | x :: r=>if x.1=2 then (if (qK x.2).2=0 then .ok ⟨s,k,(qK x.2).1⟩ r else .er (x :: r) (qK x.2).2) else .er (x :: r) 1
def wY (t:List Kt):Pr cG :=
 match Eg t with
 | .er u e=>.er u e
 | .ok s u=>if opP u=0 then wr u else yN s (opP u) u.tail
def y9:Nat→cG→List Kt→Pr cG
 | 0,x,t=>.ok x t
 | n + 1,x,t=>if isT 4 [41] t then y9 n x t.tail else wr t
def jL:Nat→List Kt→Pr cG
 | 0,t=>if isT 4 [40] t then .er t 8 else wY t
 | f + 1,t=>if isT 4 [40] t then (match jL f t.tail with
   | .er u e=>.er u e
   | .ok x u=>if isT 4 [41] u then .ok x u.tail else wr u) else wY t
def Ce (t:List Kt):Pr cG:=jL 32 t
def g9:List Kt→Pr Int
 | []=>.er [] 3
 | x :: r=>if x.1=2 then (if (lD x.2).2=0 then .ok (lD x.2).1 r else .er (x :: r) (lD x.2).2) else .er (x :: r) 1
def CU (w:Str) (t:List Kt):Pr Int:=if isT 1 w t then g9 t.tail else .ok 0 t
def oO:List Kt→Pr aY
 | []=>.er [] 3
 | w :: t1=>if w.1=1 then (if isT 4 [61] t1 then (match t1.tail with
   | []=>.er [] 3
   | x :: t3=>if x.1=3 then .ok (⟨w.2,x.2⟩:aY) t3 else .er (x :: t3) 1) else wr t1) else .er (w :: t1) 1
def qV:Nat→List aY→List Kt→Pr (List aY)
 | 0,_,t=>.er t 0
 | f + 1,acc,t=>match oO t with
  | .er u e=>.er u e
  | .ok p u=>if isT 4 [125] u then .ok (acc ++ [p]) u else if isT 4 [44] u then qV f (acc ++ [p]) u.tail else wr u
def wQ (acc:List aY) (t:List Kt):Pr (List aY):=qV (t.length + 1) acc t
def kG:Str:=[102,111,114]
def jE:Str:=[107,101,101,112]
def lR:Str:=[108,97,98,101,108,115]
def mO:Str:=[114,117,108,101]
def CM (l:List aY) (u:List Kt):Pr (List aY) :=
 if (g7 l).2=0 then (if (g7 l).1.any (fun p=>tV p.1) then .er u 7 else .ok (g7 l).1 u.tail) else .er u (g7 l).2
def mU (t:List Kt):Pr (List aY) :=
 if isT 4 [123] t then (match (if isT 4 [125] t.tail then .ok [] t.tail else wQ [] t.tail) with
  | .er u e=>.er u e
  | .ok l u=>CM l u) else wr t
def pR (t:List Kt):Pr (List aY):=if isT 1 lR t then mU t.tail else .ok [] t
def Au (nm:Str) (x:cG) (t:List Kt):Pr a6 :=
 match CU kG t with
 | .er u e=>.er u e
 | .ok fr t1=>match CU jE t1 with
  | .er u e=>.er u e
  | .ok kp t2=>match pR t2 with
   | .er u e=>.er u e
   | .ok l t3=>if isT 4 [59] t3 then .ok ⟨nm,x,fr,kp,l⟩ t3.tail else wr t3
def lY (t:List Kt):Pr a6 :=
 if isT 1 mO t then (match pO t.tail with
  | .er u e=>.er u e
  | .ok nm t1=>if isT 4 [58] t1 then (match Ce t1.tail with
    | .er u e=>.er u e
    | .ok x t2=>Au nm x t2) else wr t1) else wr t
structure bH {α:Type} (t:List Kt) (r:Pr α) (Q:α→Prop) (m:Nat):Prop where
 er:∀ u e,r=.er u e→u.length≤t.length∧(∃ p,t=p ++ u)∧(e=3 ↔ u=[])∧e ≠ 0
 ok:∀ a u,r=.ok a u→u.length + m≤t.length∧(∃ p,t=p ++ u)∧Q a
theorem bH.erI {α:Type}{t u p:List Kt}{e:Int}{Q:α→Prop}{m:Nat} (hp:t=p ++ u) (h:e=3 ↔ u=[]) (h0:e ≠ 0):bH t (.er u e:Pr α) Q m :=
 ⟨fun u' e' h1=>by cases h1; exact ⟨by rw [hp,List.length_append]; omega,⟨p,hp⟩,h,h0⟩,fun _ _ h1=>by cases h1⟩
theorem bH.okI {α:Type}{t u p:List Kt}{a:α}{Q:α→Prop}{m:Nat} (hp:t=p ++ u) (hm:m≤p.length) (hq:Q a):bH t (.ok a u:Pr α) Q m :=
 ⟨fun _ _ h1=>(by cases h1),fun a' u' h1=>by cases h1; exact ⟨by rw [hp,List.length_append]; omega,⟨p,hp⟩,hq⟩⟩
theorem bH.wrI {α:Type}{t u p:List Kt}{Q:α→Prop}{m:Nat} (hp:t=p ++ u):bH t (wr u:Pr α) Q m :=
 bH.erI hp (by cases u <;> simp [wrE]) (by cases u <;> simp [wrE])
theorem bH.front {α:Type}{t u p:List Kt}{r:Pr α}{Q:α→Prop}{m k:Nat} (hp:t=p ++ u) (hk:k≤p.length + m) (h:bH u r Q m):bH t r Q k :=
  ⟨fun v e h1=>by obtain ⟨a,⟨q,b⟩,c⟩:=h.er v e h1; exact ⟨by rw [hp,List.length_append]; omega,⟨p ++ q,by rw [hp,b,List.append_assoc]⟩,c⟩,
   fun x v h1=>by obtain ⟨a,⟨q,b⟩,c⟩:=h.ok x v h1; exact ⟨by rw [hp,List.length_append]; omega,⟨p ++ q,by rw [hp,b,List.append_assoc]⟩,c⟩⟩
theorem bH.split {α:Type}{t:List Kt}{r:Pr α}{Q:α→Prop}{m:Nat} (h:bH t r Q m) :
  (∃ u e p,r=.er u e∧t=p ++ u∧(e=3 ↔ u=[])∧e ≠ 0) ∨ (∃ a u p,r=.ok a u∧t=p ++ u∧m≤p.length∧Q a):=by
 cases r with
 | er u e=>obtain ⟨_,⟨p,b⟩,c⟩:=h.er u e rfl; exact .inl ⟨u,e,p,rfl,b,c⟩
 | ok a u=>
  obtain ⟨h1,⟨p,b⟩,c⟩:=h.ok a u rfl
  have:t.length=p.length + u.length:=by rw [b,List.length_append]
  exact .inr ⟨a,u,p,rfl,b,by omega,c⟩
theorem bH.mono {α:Type}{t:List Kt}{r:Pr α}{Q R:α→Prop}{m k:Nat} (h:bH t r Q m) (hq:∀ a,Q a→R a) (hk:k≤m):bH t r R k :=
 ⟨h.er,fun a u e=>by obtain ⟨x,y,z⟩:=h.ok a u e; exact ⟨by omega,y,hq a z⟩⟩
theorem uQ {k:Int}{s:Str}{t:List Kt} (h:isT k s t=true):t=(k,s) :: t.tail:=by
 rcases t with _ | ⟨⟨a,b⟩,t⟩
 ·cases h
 ·simp only [isT,Bool.and_eq_true,decide_eq_true_eq] at h
  obtain ⟨rfl,rfl⟩:=h; rfl
theorem dP {k:Int}{s:Str}{t:List Kt} (h:isT k s t=true):t=[(k,s)] ++ t.tail:=uQ h
theorem p9 (x:Kt) (t:List Kt):x :: t=[x] ++ t:=rfl
theorem bX (t:List Kt):t=[] ++ t:=rfl
theorem iX (k:Int) (s:Str) (t:List Kt):isT k s ((k,s) :: t)=true:=by simp [isT]
theorem pH {k k2:Int}{s s2:Str} (t:List Kt) (h:s2 ≠ s ∨ k2 ≠ k):isT k s ((k2,s2) :: t)=false:=by
 simp only [isT,Bool.and_eq_false_iff,decide_eq_false_iff_not]
 rcases h with h | h
 ·exact .inr h
 ·exact .inl h
theorem p3 (t:List Kt):bH t (pO t) (fun s=>cJ s=true) 1:=by
 rcases t with _ | ⟨x,r⟩
 ·exact bH.erI (bX _) (by simp) (by simp)
 ·simp only [pO]
  split
  ·split
   ·exact bH.okI (p9 _ _) (by simp) (by assumption)
   ·exact bH.erI (bX _) (by simp) (by simp)
  ·exact bH.erI (bX _) (by simp) (by simp)
theorem JR (n:Nat) (nm:Str) (nt:Bool) (h:cJ nm=true) (t:List Kt):bH t (zI n nm nt t) (fun m=>mOk m=true∧n < 8) 1:=by
 rcases t with _ | ⟨x,r⟩
 ·exact bH.erI (bX _) (by simp) (by simp)
 ·simp only [zI]
  split
  ·split
   ·exact bH.erI (bX _) (by simp) (by simp)
   ·rename_i h2
    exact bH.okI (p9 _ _) (by simp) ⟨by unfold mOk; rw [h]; simp; omega,by omega⟩
  ·exact bH.erI (bX _) (by simp) (by simp)
theorem AQ (n:Nat) (t:List Kt):bH t (tL n t) (fun m=>mOk m=true∧n < 8) 3:=by
 unfold tL
 rcases (p3 t).split with ⟨u',e,p,hr,hp,h3,h0⟩ | ⟨nm,u,p,hr,hp,hl,hn⟩ <;> rw [hr] <;> dsimp only
 ·exact bH.erI hp h3 h0
 refine bH.front (m:=2) hp (by omega) ?_
 split
 ·rename_i h; exact (JR n nm true hn _).front (dP h) (by simp)
 ·split
  ·rename_i h; exact (JR n nm false hn _).front (dP h) (by simp)
  ·exact bH.wrI (bX _)
theorem JW (nm:Str) (hn:cJ nm=true):∀ (f:Nat) (acc:List bS) (t:List Kt),acc.length + f=8→acc.all mOk=true→bH t (uB nm f acc t) (fun s=>kD s=true) 1
 | 0,acc,t,hl,ha=>by
  unfold uB
  have h:=AQ acc.length t
  cases hm:tL acc.length t with
  | er u e=>obtain ⟨_,⟨p,b⟩,c⟩:=h.er u e hm; exact bH.erI b c.1 c.2
  | ok m u=>have:=(h.ok m u hm).2.2.2; omega
 | f + 1,acc,t,hl,ha=>by
  unfold uB
  rcases (AQ acc.length t).split with ⟨u',e,p,hr,hp,h3,h0⟩ | ⟨m,u,p,hr,hp,hl,hm⟩ <;> rw [hr] <;> dsimp only
  ·exact bH.erI hp h3 h0
  refine bH.front (m:=0) hp (by omega) ?_
  have ha2:(acc ++ [m]).all mOk=true:=by rw [List.all_append,ha]; simp [hm.1]
  split
  ·rename_i h
   refine bH.okI (dP h) (by simp) ?_
   unfold kD
   rw [hn,ha2]; simp; omega
  ·split
   ·rename_i h
    exact (JW nm hn f (acc ++ [m]) u.tail (by simp; omega) ha2).front (dP h) (by simp)
   ·exact bH.wrI (bX _)
theorem JI (t:List Kt):bH t (Eg t) (fun s=>kD s=true) 1:=by
 unfold Eg
 rcases (p3 t).split with ⟨u',e,p,hr,hp,h3,h0⟩ | ⟨nm,u,p,hr,hp,hl,hn⟩ <;> rw [hr] <;> dsimp only
 ·exact bH.erI hp h3 h0
 refine bH.front (m:=0) hp (by omega) ?_
 have h0:kD ⟨nm,[]⟩=true:=by unfold kD; rw [hn]; rfl
 split
 ·rename_i h
  split
  ·rename_i h2
   exact (bH.okI (Q:=fun s=>kD s=true) (dP h2) (m:=0) (by simp) h0).front (dP h) (by simp)
  ·exact (JW nm hn 8 [] u.tail rfl rfl).front (dP h) (by simp)
 ·exact bH.okI (bX _) (by simp) h0
theorem Vh (s:Str):0≤opB s∧opB s≤6:=by
 unfold opB
 repeat' split
 all_goals omega
theorem RV (t:List Kt):0≤opP t∧opP t≤6:=by
 rcases t with _ | ⟨x,r⟩
 ·simp [opP]
 ·simp only [opP]; split
  ·exact Vh _
  ·omega
theorem Oz (b:Bool) {x:Int} (h:0≤x):oK (uO b x).1=true∧((uO b x).2=0 ∨ (uO b x).2=2):=by
 unfold uO
 split
 ·cases b
  ·exact ⟨nE.2 (by simp; omega),.inl rfl⟩
  ·exact ⟨nE.2 (by simp; omega),.inl rfl⟩
 ·exact ⟨rfl,.inr rfl⟩
theorem TF (s:Str):oK (qK s).1=true∧((qK s).2=0 ∨ (qK s).2=1 ∨ (qK s).2=2):=by
 unfold qK
 split
 ·split
  ·exact ⟨rfl,.inr (.inl rfl)⟩
  ·have:=Oz (kN s).2 (Int.mul_nonneg (l8 _ (n3 (kN s).1) (Int.le_refl 0)) (show (0:Int)≤1000 by omega))
   refine ⟨this.1,?_⟩
   rcases this.2 with h | h
   ·exact .inl h
   ·exact .inr (.inr h)
 ·rename_i c r _
  split
  ·rename_i h
   have hall:∀ d ∈ (kN s).1.takeWhile isD ++ r,isD d=true:=by
    intro d hd
    rcases List.mem_append.1 hd with hd | hd
    ·exact n3 _ d hd
    ·have e:=List.takeWhile_append_dropWhile (p:=isD) (l:=r)
     rw [h.2.2.1,List.append_nil] at e
     rw [← e] at hd
     exact n3 _ d hd
   have:=Oz (kN s).2 (Int.mul_nonneg (l8 _ hall (Int.le_refl 0)) (Int.pow_nonneg (m:=3 - r.length) (show (0:Int)≤10 by omega)))
   refine ⟨this.1,?_⟩
   rcases this.2 with h | h
   ·exact .inl h
   ·exact .inr (.inr h)
  ·exact ⟨rfl,.inr (.inl rfl)⟩
theorem Ln:∀ (f:Nat) (s:Str) (fr:Nat) (sum:Int),(pB f s fr sum).2=0 ∨ (pB f s fr sum).2=1 ∨ (pB f s fr sum).2=2
 | f,[],fr,sum=>by
  rw [uM]; unfold o8
  split
  ·exact .inl rfl
  ·exact .inr (.inr rfl)
 | 0,c :: s,fr,sum=>.inr (.inl rfl)
 | f + 1,c :: s,fr,sum=>by
  unfold pB
  split
  ·exact .inr (.inl rfl)
  ·split
   ·exact .inr (.inl rfl)
   ·split
    ·exact Ln f _ _ _
    ·exact .inr (.inl rfl)
theorem S5 (s:Str):(lD s).2=0 ∨ (lD s).2=1 ∨ (lD s).2=2:=by
 unfold lD
 split
 ·exact .inr (.inl rfl)
 ·exact Ln _ _ _ _
theorem Qz (s:cT) (k:Int) (hs:kD s=true) (hk:1≤k∧k≤6) (t:List Kt):bH t (yN s k t) (fun x=>iJ x=true) 1:=by
 rcases t with _ | ⟨x,r⟩
 ·exact bH.erI (bX _) (by simp) (by simp)
 ·simp only [yN]
  have hn:=TF x.2
  split
  ·split
   ·refine bH.okI (p9 _ _) (by simp) ?_
    unfold iJ
    rw [hs,hn.1]; simp; omega
   ·rename_i h
    exact bH.erI (bX _) (by simp; omega) h
  ·exact bH.erI (bX _) (by simp) (by simp)
theorem Mu {t:List Kt} (h:opP t ≠ 0):∃ x,t=[x] ++ t.tail:=by
 rcases t with _ | ⟨x,r⟩
 ·exact absurd rfl h
 ·exact ⟨x,rfl⟩
theorem FG (t:List Kt):bH t (wY t) (fun x=>iJ x=true) 3:=by
 unfold wY
 rcases (JI t).split with ⟨u',e,p,hr,hp,h3,h0⟩ | ⟨s,u,p,hr,hp,hl,hs⟩ <;> rw [hr] <;> dsimp only
 ·exact bH.erI hp h3 h0
 refine bH.front (m:=2) hp (by omega) ?_
 split
 ·exact bH.wrI (bX _)
 ·rename_i h
  obtain ⟨x,e⟩:=Mu h
  have:=RV u
  exact (Qz s (opP u) hs (by omega) u.tail).front e (by simp)
theorem yS:∀ (f:Nat) (t:List Kt),bH t (jL f t) (fun x=>iJ x=true) 3
 | 0,t=>by
  unfold jL
  split
  ·rename_i h
   refine bH.erI (bX _) ?_ (by simp)
   rw [uQ h]; simp
  ·exact FG t
 | f + 1,t=>by
  unfold jL
  split
  ·rename_i h
   refine bH.front (dP h) (m:=3) (by simp) ?_
   rcases (yS f t.tail).split with ⟨u',e,p,hr,hp,h3,h0⟩ | ⟨x,u,p,hr,hp,hl,hx⟩ <;> rw [hr] <;> dsimp only
   ·exact bH.erI hp h3 h0
   refine bH.front (m:=0) hp (by omega) ?_
   split
   ·rename_i h2; exact bH.okI (dP h2) (by simp) hx
   ·exact bH.wrI (bX _)
  ·exact FG t
theorem wO (t:List Kt):bH t (g9 t) (fun x=>tmB x=true) 1:=by
 rcases t with _ | ⟨x,r⟩
 ·exact bH.erI (bX _) (by simp) (by simp)
 ·simp only [g9]
  have hn:=S5 x.2
  split
  ·split
   ·exact bH.okI (p9 _ _) (by simp) (Un _)
   ·rename_i h
    exact bH.erI (bX _) (by simp; omega) h
  ·exact bH.erI (bX _) (by simp) (by simp)
theorem JN (w:Str) (t:List Kt):bH t (CU w t) (fun x=>tmB x=true) 0:=by
 unfold CU
 split
 ·rename_i h; exact (wO _).front (dP h) (by simp)
 ·exact bH.okI (bX _) (by simp) rfl
theorem xX (t:List Kt):bH t (oO t) (fun _=>True) 3:=by
 rcases t with _ | ⟨x,r⟩
 ·exact bH.erI (bX _) (by simp) (by simp)
 ·simp only [oO]
  split
  ·split
   ·rename_i h
    rcases hr:r.tail with _ | ⟨y,r2⟩
    ·refine bH.erI (p:=[x,(4,[61])]) ?_ (by simp) (by simp)
     rw [uQ h,hr]; rfl
    ·simp only
     split
     ·refine bH.okI (p:=[x,(4,[61]),y]) ?_ (by simp) trivial
      rw [uQ h,hr]; rfl
     ·refine bH.erI (p:=[x,(4,[61])]) ?_ (by simp) (by simp)
      rw [uQ h,hr]; rfl
   ·exact bH.wrI (p9 _ _)
  ·exact bH.erI (bX _) (by simp) (by simp)
theorem FP:∀ (f:Nat) (acc:List aY) (t:List Kt),t.length < f→bH t (qV f acc t) (fun _=>True) 3
 | 0,_,_,h=>by omega
 | f + 1,acc,t,h=>by
  unfold qV
  have hp:=xX t
  cases hm:oO t with
  | er u e=>obtain ⟨_,⟨p,b⟩,c⟩:=hp.er u e hm; exact bH.erI b c.1 c.2
  | ok m u=>
   obtain ⟨h1,⟨p,b⟩,_⟩:=hp.ok m u hm
   have hl:t.length=p.length + u.length:=by rw [b,List.length_append]
   simp only
   split
   ·exact bH.okI b (by omega) trivial
   ·split
    ·rename_i h2
     have h3:=congrArg List.length (dP h2)
     rw [List.length_append] at h3
     refine bH.front (p:=p ++ [(4,[44])]) ?_ (m:=3) (by simp) (FP f (acc ++ [m]) u.tail (by omega))
     rw [List.append_assoc,← dP h2]; exact b
    ·exact bH.wrI b
theorem FV:∀ (f g:Nat) (acc:List aY) (t:List Kt),t.length < f→t.length < g→qV f acc t=qV g acc t
 | 0,_,_,_,h,_=>by omega
 | _ + 1,0,_,_,_,h=>by omega
 | f + 1,g + 1,acc,t,h1,h2=>by
  unfold qV
  have hp:=xX t
  cases hm:oO t with
  | er u e=>rfl
  | ok m u=>
   have:=(hp.ok m u hm).1
   simp only
   split
   ·rfl
   ·split
    ·have:u.tail.length≤u.length:=by simp
     exact FV f g _ _ (by omega) (by omega)
    ·rfl
theorem EC (acc:List aY) (t:List Kt):wQ acc t=match oO t with
  | .er u e=>.er u e
  | .ok p u=>if isT 4 [125] u then .ok (acc ++ [p]) u else if isT 4 [44] u then wQ (acc ++ [p]) u.tail else wr u:=by
 unfold wQ
 conv=>lhs; unfold qV
 have hp:=xX t
 cases hm:oO t with
 | er u e=>rfl
 | ok m u=>
  have:=(hp.ok m u hm).1
  simp only
  split
  ·rfl
  ·split
   ·have:u.tail.length≤u.length:=by simp
    exact FV _ _ _ _ (by omega) (by omega)
   ·rfl
theorem RU (l:List aY):(g7 l).2=0 ∨ (g7 l).2=4 ∨ (g7 l).2=6 ∨ (g7 l).2=7:=by
 unfold g7 q7
 repeat' split
 all_goals simp_all
theorem Qe {l:List aY} (h:(g7 l).2=0):gZ (g7 l).1=true:=by
 by_cases hg:zA l
 ·rw [HT hg]; exact PS hg
 ·exact absurd h (RX hg).2.1
def H0 (l:List aY):Prop:=gZ l=true∧(l.any fun p=>tV p.1)=false
theorem O1 (l:List aY) (u:List Kt) (hu:u ≠ []):bH u (CM l u) H0 1:=by
 unfold CM
 have he:=RU l
 split
 ·rename_i h
  split
  ·exact bH.erI (bX _) (by simp [hu]) (by simp)
  ·rename_i h2
   rcases u with _ | ⟨x,u⟩
   ·exact absurd rfl hu
   ·exact bH.okI (p9 _ _) (by simp) ⟨Qe h,by simpa using h2⟩
 ·rename_i h
  exact bH.erI (bX _) (by simp [hu]; omega) h
theorem Ig:∀ (f:Nat) (acc:List aY) (t:List Kt) (l:List aY) (u:List Kt),qV f acc t=.ok l u→isT 4 [125] u=true
 | 0,_,_,_,_,h=>by cases h
 | f + 1,acc,t,l,u,h=>by
  unfold qV at h
  split at h
  ·cases h
  ·split at h
   ·cases h; assumption
   ·split at h
    ·exact Ig f _ _ _ _ h
    ·cases h
theorem DU (t:List Kt):bH t (mU t) H0 2:=by
 unfold mU
 split
 ·rename_i h
  refine bH.front (dP h) (m:=1) (by simp) ?_
  have hne:∀ u:List Kt,isT 4 [125] u=true→u ≠ []:=fun u h h2=>by rw [h2] at h; cases h
  have:bH t.tail (if isT 4 [125] t.tail then .ok [] t.tail else wQ [] t.tail:Pr (List aY)) (fun _=>True) 0:=by
   split
   ·exact bH.okI (bX _) (by simp) trivial
   ·exact (FP _ _ _ (by omega)).mono (fun _ h=>h) (by omega)
  cases hm:(if isT 4 [125] t.tail then .ok [] t.tail else wQ [] t.tail:Pr (List aY)) with
  | er u e=>obtain ⟨_,⟨p,b⟩,c⟩:=this.er u e hm; exact bH.erI b c.1 c.2
  | ok l u=>
   obtain ⟨h1,⟨p,b⟩,_⟩:=this.ok l u hm
   refine bH.front b (m:=1) (by omega) (O1 l u (hne u ?_))
   split at hm
   ·cases hm; assumption
   ·exact Ig _ _ _ _ _ hm
 ·exact bH.wrI (bX _)
theorem MU (t:List Kt):bH t (pR t) H0 0:=by
 unfold pR
 split
 ·rename_i h; exact (DU _).front (dP h) (by simp)
 ·exact bH.okI (bX _) (by simp) ⟨rfl,rfl⟩
theorem Pp (nm:Str) (x:cG) (hn:cJ nm=true) (hx:iJ x=true) (t:List Kt):bH t (Au nm x t) (fun r=>eB r=true) 1:=by
 unfold Au
 rcases (JN kG t).split with ⟨u',e,p,hr,hp,h3,h0⟩ | ⟨fr,t1,p,hr,hp,hl,hf⟩ <;> rw [hr] <;> dsimp only
 ·exact bH.erI hp h3 h0
 refine bH.front (m:=1) hp (by omega) ?_
 rcases (JN jE t1).split with ⟨u',e,p,hr,hp,h3,h0⟩ | ⟨kp,t2,p,hr,hp,hl,hk⟩ <;> rw [hr] <;> dsimp only
 ·exact bH.erI hp h3 h0
 refine bH.front (m:=1) hp (by omega) ?_
 rcases (MU t2).split with ⟨u',e,p,hr,hp,h3,h0⟩ | ⟨l,t3,p,hr,hp,hl,hl⟩ <;> rw [hr] <;> dsimp only
 ·exact bH.erI hp h3 h0
 refine bH.front (m:=1) hp (by omega) ?_
 split
 ·rename_i h
  refine bH.okI (dP h) (by simp) ?_
  unfold eB
  simp only
  rw [hn,hx,hf,hk,hl.1,hl.2]; rfl
 ·exact bH.wrI (bX _)
theorem yC (t:List Kt):bH t (lY t) (fun r=>eB r=true) 7:=by
 unfold lY
 split
 ·rename_i h
  refine bH.front (dP h) (m:=6) (by simp) ?_
  rcases (p3 t.tail).split with ⟨u',e,p,hr,hp,h3,h0⟩ | ⟨nm,t1,p,hr,hp,hl,hn⟩ <;> rw [hr] <;> dsimp only
  ·exact bH.erI hp h3 h0
  refine bH.front (m:=5) hp (by omega) ?_
  split
  ·rename_i h2
   refine bH.front (dP h2) (m:=4) (by simp) ?_
   unfold Ce
   rcases (yS 32 t1.tail).split with ⟨u',e,p,hr,hp,h3,h0⟩ | ⟨x,t2,p,hr,hp,hl,hx⟩ <;> rw [hr] <;> dsimp only
   ·exact bH.erI hp h3 h0
   refine bH.front (m:=1) hp (by omega) ?_
   exact Pp nm x hn hx t2
  ·exact bH.wrI (bX _)
 ·exact bH.wrI (bX _)
end Go.Proofs.YthgenmkengbmmaaGreatDoor.AM
namespace Go.Proofs.YthgenmkengbmmaaGreatDoor.AM
open Go
open Go.Lib (decDigits)
def kv (x:aN):Kt:=(x.K,x.S)
def LX (t:Str) (ks:List Kt):Prop:=t.length≤100000000→∀ a,∃ l,Lx t a l∧l.map kv=ks
def Off (p:UInt8→Bool) (t:Str):Prop:=∀ c r,t=c :: r→p c=false
theorem Off.cons {p:UInt8→Bool}{c:UInt8}{t:Str} (h:p c=false):Off p (c :: t):=fun _ _ e=>by cases e; exact h
theorem Lq (p:UInt8→Bool):∀ (l r:Str),(∀ c ∈ l,p c=true)→Off p r→(l ++ r).takeWhile p=l
 | [],r,_,hr=>by
  rcases r with _ | ⟨c,r⟩
  ·rfl
  ·simp [List.takeWhile_cons,hr c r rfl]
 | c :: l,r,hl,hr=>by
  have h1:=Lq p l r (fun d hd=>hl d (by simp [hd])) hr
  simp [List.takeWhile_cons,hl c (by simp),h1]
theorem LX.nil:LX [] []:=fun _ a=>⟨[],.nil a,rfl⟩
theorem LX.sp {c:UInt8}{t:Str}{ks:List Kt} (hc:isW c=true) (h:LX t ks):LX (c :: t) ks:=fun hl a=>by
 obtain ⟨l,h1,h2⟩:=h (by simp at hl; omega) (a + 1)
 exact ⟨l,.sp hc h1,h2⟩
theorem Js {w:Str}{c:UInt8}{t:Str}{p:Bool} (hw:∀ d ∈ w,isR p d=true) (ho:Off (isR p) t) (hl:(c :: w ++ t).length≤100000000):oI (c :: w ++ t) p=some ((c :: w).length:Int):=by
 rw [Ct _ _ hl]
 simp only [List.cons_append,List.drop_succ_cons,List.drop_zero,Lq _ w t hw ho,List.length_cons]
 congr 1; omega
theorem Rr {c:UInt8} (h:isL c=true):isW c=false∧c ≠ 35∧isR false c=true:=by
 refine ⟨?_,?_,by unfold isR; rw [h]; rfl⟩
 ·cases hw:isW c
  ·rfl
  ·exfalso
   unfold isW at hw
   simp only [Bool.or_eq_true,decide_eq_true_eq] at hw
   rcases hw with ((rfl | rfl) | rfl) | rfl <;> revert h <;> decide
 ·rintro rfl; revert h; decide
theorem ED {c:UInt8} (h:isD c=true):isW c=false∧c ≠ 35∧isL c=false∧isR true c=true:=by
 have h2:=oG.1 h
 refine ⟨?_,?_,?_,?_⟩
 ·cases hw:isW c
  ·rfl
  ·exfalso
   unfold isW at hw
   simp only [Bool.or_eq_true,decide_eq_true_eq] at hw
   rcases hw with ((rfl | rfl) | rfl) | rfl <;> revert h <;> decide
 ·rintro rfl; revert h; decide
 ·unfold isL pV
  simp; omega
 ·unfold isR; rw [h]; simp
theorem LX.word {c:UInt8}{w t:Str}{ks:List Kt} (hc:isL c=true) (hw:∀ d ∈ w,isR false d=true) (ho:Off (isR false) t) (h:LX t ks):LX (c :: w ++ t) ((1,c :: w) :: ks):=fun hl a=>by
 obtain ⟨l,h1,h2⟩:=h (by simp only [List.length_append] at hl; omega) (a + (c :: w).length)
 obtain ⟨f1,f2,_⟩:=Rr hc
 exact ⟨⟨1,a,c :: w⟩ :: l,.run (.inl rfl) ⟨c,w,rfl,f1,f2⟩ (NC (by rfl) hc) (Js hw ho hl) h1,by simp [kv,h2]⟩
theorem LX.num {c:UInt8}{w t:Str}{ks:List Kt} (hc:isD c=true) (hw:∀ d ∈ w,isR true d=true) (ho:Off (isR true) t) (h:LX t ks):LX (c :: w ++ t) ((2,c :: w) :: ks):=fun hl a=>by
 obtain ⟨l,h1,h2⟩:=h (by simp only [List.length_append] at hl; omega) (a + (c :: w).length)
 obtain ⟨f1,f2,f3,_⟩:=ED hc
 exact ⟨⟨2,a,c :: w⟩ :: l,.run (.inr rfl) ⟨c,w,rfl,f1,f2⟩ (Qr (by rfl) f3 hc) (Js hw ho hl) h1,by simp [kv,h2]⟩
theorem LX.neg {c:UInt8}{w t:Str}{ks:List Kt} (hc:isD c=true) (hw:∀ d ∈ w,isR true d=true) (ho:Off (isR true) t) (h:LX t ks):LX (45 :: c :: w ++ t) ((2,45 :: c :: w) :: ks):=fun hl a=>by
 obtain ⟨l,h1,h2⟩:=h (by simp only [List.length_append] at hl; omega) (a + (45 :: c :: w).length)
 obtain ⟨f1,f2,f3,f4⟩:=ED hc
 exact ⟨⟨2,a,45 :: c :: w⟩ :: l,.run (.inr rfl) ⟨45,c :: w,rfl,by decide,by decide⟩ (Qq (d:=c) (by rfl) (by rfl) hc) (Js (fun d hd=>by
  rcases List.mem_cons.1 hd with rfl | hd
  ·exact f4
  ·exact hw d hd) ho hl) h1,by simp [kv,h2]⟩
theorem LX.text {v t:Str}{ks:List Kt} (h:LX t ks):LX (dC v ++ t) ((3,v) :: ks):=fun hl a=>by
 obtain ⟨l,h1,h2⟩:=h (by simp only [List.length_append] at hl; omega) (a + (dC v).length)
 exact ⟨⟨3,a,v⟩ :: l,.text h1,by simp [kv,h2]⟩
theorem LX.sign1 {c:UInt8}{t:Str}{ks:List Kt} (hc:isL c=false∧isD c=false∧c ≠ 45∧c ≠ 34∧¬ 0≤Lib.indexByte [61,33,60,62] c∧0≤Lib.indexByte [123,125,40,41,44,58,59,61,60,62] c) (h2:isW c=false∧c ≠ 35) (h:LX t ks):LX (c :: t) ((4,[c]) :: ks):=fun hl a=>by
 obtain ⟨l,h1,h3⟩:=h (by simp only [List.length_cons] at hl; omega) (a + [c].length)
 exact ⟨⟨4,a,[c]⟩ :: l,.sign (w:=[c]) ⟨c,[],rfl,h2⟩ (LS (t:=[c] ++ t) (by rfl) hc) h1,by simp [kv,h3]⟩
theorem LX.sign2 {c:UInt8}{t:Str}{ks:List Kt} (hc:isL c=false∧isD c=false∧c ≠ 45∧c ≠ 34∧0≤Lib.indexByte [61,33,60,62] c) (h2:isW c=false∧c ≠ 35) (h:LX t ks):LX (c :: 61 :: t) ((4,[c,61]) :: ks):=fun hl a=>by
 obtain ⟨l,h1,h3⟩:=h (by simp only [List.length_cons] at hl; omega) (a + [c,61].length)
 exact ⟨⟨4,a,[c,61]⟩ :: l,.sign (w:=[c,61]) ⟨c,[61],rfl,h2⟩ (Lz (t:=[c,61] ++ t) (by rfl) (by rfl) hc) h1,by simp [kv,h3]⟩
theorem LX.sign3 {c d:UInt8}{t:Str}{ks:List Kt} (hd:d ≠ 61) (hc:isL c=false∧isD c=false∧c ≠ 45∧c ≠ 34∧0≤Lib.indexByte [61,33,60,62] c∧0≤Lib.indexByte [123,125,40,41,44,58,59,61,60,62] c) (h2:isW c=false∧c ≠ 35) (h:LX (d :: t) ks):LX (c :: d :: t) ((4,[c]) :: ks):=fun hl a=>by
 obtain ⟨l,h1,h3⟩:=h (by simp only [List.length_cons] at hl ⊢; omega) (a + [c].length)
 exact ⟨⟨4,a,[c]⟩ :: l,.sign (w:=[c]) ⟨c,[],rfl,h2⟩ (Ls (t:=[c] ++ d :: t) (c:=c) (d:=d) (by rfl) (by rfl) hd hc) h1,by simp [kv,h3]⟩
theorem Q4 (c:UInt8) (s:Str) (i:Nat):pK (c :: s) (i + 1)=isR false (s.getD i 0):=by
 unfold pK isR isL isD y7
 simp only [List.getD_cons_succ]
 generalize s.getD i 0=d
 rw [show decide ((48:Int)≤(d.toNat:Int))=decide (48≤d.toNat) from by rw [decide_eq_decide]; omega,show decide ((d.toNat:Int)≤57)=decide (d.toNat≤57) from by rw [decide_eq_decide]; omega]
 simp
theorem FJ {s:Str} (h:cJ s=true):∃ c w,s=c :: w∧isL c=true∧(∀ d ∈ w,isR false d=true)∧w.length < 64:=by
 simp only [cJ,Bool.and_eq_true,decide_eq_true_eq,List.all_eq_true,List.mem_range] at h
 obtain ⟨⟨h1,h2⟩,h3⟩:=h
 rcases s with _ | ⟨c,w⟩
 ·simp at h1
 ·refine ⟨c,w,rfl,?_,?_,by simp at h2; omega⟩
  ·have:=h3 0 (by simp)
   unfold pK at this
   simpa [isL] using this
  ·intro d hd
   obtain ⟨i,hi,rfl⟩:=List.mem_iff_getElem.1 hd
   have:=h3 (i + 1) (by simp; omega)
   rw [Q4] at this
   rw [List.getD_eq_getElem?_getD,List.getElem?_eq_getElem hi] at this
   exact this
theorem LX.name {s t:Str}{ks:List Kt} (hs:cJ s=true) (ho:Off (isR false) t) (h:LX t ks):LX (s ++ t) ((1,s) :: ks):=by
 obtain ⟨c,w,rfl,h1,h2,_⟩:=FJ hs
 exact LX.word h1 h2 ho h
theorem BL {c:UInt8} (h:isD c=true):isR true c=true:=(ED h).2.2.2
theorem Sr (r:Nat) (hr:r < 1000):∀ d ∈ jQ r,isR true d=true:=by
 have d1:=BL (pZ (show r / 100 < 10 by omega))
 have d2:=BL (pZ (show r / 10 % 10 < 10 by omega))
 have d3:=BL (pZ (show r % 10 < 10 by omega))
 have d0:isR true 46=true:=by decide
 intro d hd
 unfold jQ at hd
 split at hd
 ·cases hd
 ·split at hd
  ·simp only [List.mem_cons,List.not_mem_nil,or_false] at hd
   rcases hd with rfl | rfl <;> assumption
  ·split at hd
   ·simp only [List.mem_cons,List.not_mem_nil,or_false] at hd
    rcases hd with rfl | rfl | rfl <;> assumption
   ·simp only [List.mem_cons,List.not_mem_nil,or_false] at hd
    rcases hd with rfl | rfl | rfl | rfl <;> assumption
theorem Pk (u:Nat):∀ d ∈ jT u,isR true d=true:=by
 intro d hd
 unfold jT at hd
 rcases List.mem_append.1 hd with hd | hd
 ·exact BL (yH _ d hd)
 ·exact Sr _ (by omega) d hd
theorem LX.printN {v:Int}{t:Str}{ks:List Kt} (hv:oK v=true) (ho:Off (isR true) t) (h:LX t ks):LX (Go.Proofs.YthgenmkengbmmaaGreatDoor.AM.printN v ++ t) ((2,Go.Proofs.YthgenmkengbmmaaGreatDoor.AM.printN v) :: ks):=by
 unfold Go.Proofs.YthgenmkengbmmaaGreatDoor.AM.printN
 rw [if_pos hv]
 obtain ⟨c,w,e,hc⟩:=FD v.natAbs
 have hr:=Pk v.natAbs
 rw [e] at hr ⊢
 have hw:∀ d ∈ w,isR true d=true:=fun d hd=>hr d (by simp [hd])
 by_cases hn:v < 0
 ·rw [if_pos hn]; exact LX.neg hc hw ho h
 ·rw [if_neg hn]; exact LX.num hc hw ho h
theorem R4 {i:Nat}{n:Str}{k:Nat} (h:eA[i]?=some (n,k)):∀ c ∈ n,isR true c=true:=by
 have:i < 5:=(List.getElem?_eq_some_iff.1 h).1
 have:i=0 ∨ i=1 ∨ i=2 ∨ i=3 ∨ i=4:=by omega
 rcases this with rfl | rfl | rfl | rfl | rfl <;> simp only [eA,List.getElem?_cons_zero,List.getElem?_cons_succ,Option.some.injEq,Prod.mk.injEq] at h <;> obtain ⟨rfl,rfl⟩:=h <;> decide
theorem FN:∀ (j i d:Nat),i + j=5→∀ c ∈ eV (eA.drop i) d,isR true c=true
 | 0,i,d,hi,c,hc=>by
  have:i=5:=by omega
  subst this
  cases hc
 | j + 1,i,d,hi,c,hc=>by
  obtain ⟨n,k,hu,hd,_⟩:=An i (by omega)
  rw [hd] at hc
  unfold eV at hc
  rcases List.mem_append.1 hc with hc | hc
  ·split at hc
   ·rcases List.mem_append.1 hc with hc | hc
    ·exact BL (yH _ c hc)
    ·exact R4 hu c hc
   ·cases hc
  ·exact FN j (i + 1) _ (by omega) c hc
theorem HK:∀ (j i d:Nat),i + j=5→(i=5→d=0)→d ≠ 0→eV (eA.drop i) d ≠ []
 | 0,i,d,hi,h5,h0=>by exact absurd (h5 (by omega)) h0
 | j + 1,i,d,hi,_,h0=>by
  obtain ⟨n,k,hu,hd,hk,hk4⟩:=An i (by omega)
  rw [hd]
  unfold eV
  by_cases hp:0 < d / k
  ·rw [if_pos hp]
   have:=wG (d / k)
   simp [this]
  ·rw [if_neg hp,List.nil_append]
   have:d / k=0:=Nat.le_zero.1 (Nat.not_lt.1 hp)
   have h2:=Nat.div_add_mod d k
   rw [this,Nat.mul_zero,Nat.zero_add] at h2
   refine HK j (i + 1) _ (by omega) (fun h=>?_) (by omega)
   rw [hk4 (by omega)]; exact Nat.mod_one d
theorem N6 {v:Int} (h:tmB v=true):∃ c w,printD v=c :: w∧isD c=true∧∀ d ∈ w,isR true d=true:=by
 have hv:=m7.1 h
 unfold printD
 rw [if_pos h]
 by_cases h0:v=0
 ·rw [if_pos h0]; exact ⟨48,[115],rfl,by decide,by decide⟩
 ·rw [if_neg h0]
  have h1:=y5 eA v.toNat
  have h2:=FN 5 0 v.toNat rfl
  have h3:=HK 5 0 v.toNat rfl (by omega) (by omega)
  rw [List.drop_zero] at h2 h3
  rcases hp:eV eA v.toNat with _ | ⟨c,w⟩
  ·exact absurd hp h3
  ·rw [hp] at h2
   exact ⟨c,w,rfl,h1 c w hp,fun d hd=>h2 d (by simp [hd])⟩
theorem LX.printD {v:Int}{t:Str}{ks:List Kt} (hv:tmB v=true) (ho:Off (isR true) t) (h:LX t ks):LX (Go.Proofs.YthgenmkengbmmaaGreatDoor.AM.printD v ++ t) ((2,Go.Proofs.YthgenmkengbmmaaGreatDoor.AM.printD v) :: ks):=by
 obtain ⟨c,w,e,hc,hw⟩:=N6 hv
 rw [e]
 exact LX.num hc hw ho h
def matchS (m:bS):Str:=m.Name ++ ((if m.Not then [33,61] else [61]) ++ dC m.Value)
def selM (b:UInt8):List bS→Str
 | []=>[]
 | m :: ms=>b :: (matchS m ++ selM 44 ms)
def selS (s:cT):Str:=s.Name ++ (if s.M=[] then [] else selM 123 s.M ++ [125])
def signS (k:Int):Str:=if k=1 then [62] else if k=2 then [62,61] else if k=3 then [60] else if k=4 then [60,61] else if k=5 then [61,61] else if k=6 then [33,61] else []
def condS (x:cG):Str:=selS x.S ++ (32 :: (signS x.Op ++ (32 :: printN x.V)))
def optS (w:Str) (d:Int):Str:=if 0 < d then 32 :: (w ++ (32 :: printD d)) else []
def labM (b:Str):List aY→Str
 | []=>[]
 | p :: ps=>b ++ (p.1 ++ (61 :: (dC p.2 ++ labM [44] ps)))
def labS (l:List aY):Str:=if l=[] then [] else labM (32 :: (lR ++ [32,123])) l ++ [125]
def ruleS (r:a6):Str:=mO ++ (32 :: (r.Name ++ (58 :: 32 :: (condS r.E ++ (optS kG r.For ++ (optS jE r.Keep ++ (labS r.Labels ++ [59])))))))
def zQ (m:bS):List Kt:=[(1,m.Name),(4,if m.Not then [33,61] else [61]),(3,m.Value)]
def Az (b:UInt8):List bS→List Kt
 | []=>[]
 | m :: ms=>(4,[b]) :: (zQ m ++ Az 44 ms)
def Jh (s:cT):List Kt:=(1,s.Name) :: (if s.M=[] then [] else Az 123 s.M ++ [(4,[125])])
def AD (x:cG):List Kt:=Jh x.S ++ [(4,signS x.Op),(2,printN x.V)]
def Bh (w:Str) (d:Int):List Kt:=if 0 < d then [(1,w),(2,printD d)] else []
def vH (b:List Kt):List aY→List Kt
 | []=>[]
 | p :: ps=>b ++ ((1,p.1) :: (4,[61]) :: (3,p.2) :: vH [(4,[44])] ps)
def DP (l:List aY):List Kt:=if l=[] then [] else vH [(1,lR),(4,[123])] l ++ [(4,[125])]
def KW (r:a6):List Kt:=(1,mO) :: (1,r.Name) :: (4,[58]) :: (AD r.E ++ (Bh kG r.For ++ (Bh jE r.Keep ++ DP r.Labels)))
def H1 (r:a6):List Kt:=KW r ++ [(4,[59])]
theorem LX.matchS {m:bS}{t:Str}{ks:List Kt} (hm:mOk m=true) (h:LX t ks):LX (Go.Proofs.YthgenmkengbmmaaGreatDoor.AM.matchS m ++ t) (zQ m ++ ks):=by
 unfold Go.Proofs.YthgenmkengbmmaaGreatDoor.AM.matchS zQ
 simp only [mOk,Bool.and_eq_true,decide_eq_true_eq] at hm
 rw [List.append_assoc]
 refine LX.name hm.1 ?_ ?_
 ·cases m.Not <;> exact Off.cons (by decide)
 ·cases m.Not
  ·exact LX.sign3 (c:=61) (d:=34) (by decide) (by decide) (by decide) (LX.text h)
  ·exact LX.sign2 (c:=33) (by decide) (by decide) (LX.text h)
theorem LX.selM:∀ (ms:List bS) (b:UInt8) {t:Str}{ks:List Kt},ms.all mOk=true→b=123 ∨ b=44→LX t ks→LX (Go.Proofs.YthgenmkengbmmaaGreatDoor.AM.selM b ms ++ t) (Az b ms ++ ks)
 | [],b,t,ks,_,_,h=>h
 | m :: ms,b,t,ks,hm,hb,h=>by
  rw [List.all_cons,Bool.and_eq_true] at hm
  have ih:=LX.selM ms 44 hm.2 (.inr rfl) h
  have:=LX.matchS hm.1 ih
  unfold Go.Proofs.YthgenmkengbmmaaGreatDoor.AM.selM Az
  rw [List.cons_append,List.cons_append,List.append_assoc,List.append_assoc]
  rcases hb with rfl | rfl
  ·exact LX.sign1 (by decide) (by decide) this
  ·exact LX.sign1 (by decide) (by decide) this
theorem LX.selS {s:cT}{t:Str}{ks:List Kt} (hs:kD s=true) (ho:Off (isR false) t) (h:LX t ks):LX (Go.Proofs.YthgenmkengbmmaaGreatDoor.AM.selS s ++ t) (Jh s ++ ks):=by
 unfold Go.Proofs.YthgenmkengbmmaaGreatDoor.AM.selS Jh
 simp only [kD,Bool.and_eq_true,decide_eq_true_eq] at hs
 rw [List.append_assoc,List.cons_append]
 refine LX.name hs.1.1 ?_ ?_
 ·by_cases hm:s.M=[]
  ·rw [if_pos hm]; exact ho
  ·rw [if_neg hm]
   rcases hl:s.M with _ | ⟨m,ms⟩
   ·exact absurd hl hm
   ·exact Off.cons (by decide)
 ·by_cases hm:s.M=[]
  ·rw [if_pos hm,if_pos hm]; exact h
  ·rw [if_neg hm,if_neg hm,List.append_assoc,List.append_assoc]
   exact LX.selM s.M 123 hs.2 (.inl rfl) (LX.sign1 (by decide) (by decide) h)
theorem LX.signS {k:Int} (hk:1≤k∧k≤6) {t:Str}{ks:List Kt} (h:LX (32 :: t) ks):LX (Go.Proofs.YthgenmkengbmmaaGreatDoor.AM.signS k ++ (32 :: t)) ((4,Go.Proofs.YthgenmkengbmmaaGreatDoor.AM.signS k) :: ks):=by
 have:k=1 ∨ k=2 ∨ k=3 ∨ k=4 ∨ k=5 ∨ k=6:=by omega
 rcases this with rfl | rfl | rfl | rfl | rfl | rfl
 ·exact LX.sign3 (c:=62) (d:=32) (by decide) (by decide) (by decide) h
 ·exact LX.sign2 (c:=62) (by decide) (by decide) h
 ·exact LX.sign3 (c:=60) (d:=32) (by decide) (by decide) (by decide) h
 ·exact LX.sign2 (c:=60) (by decide) (by decide) h
 ·exact LX.sign2 (c:=61) (by decide) (by decide) h
 ·exact LX.sign2 (c:=33) (by decide) (by decide) h
theorem LX.condS {x:cG}{t:Str}{ks:List Kt} (hx:iJ x=true) (ho:Off (isR true) t) (h:LX t ks):LX (Go.Proofs.YthgenmkengbmmaaGreatDoor.AM.condS x ++ t) (AD x ++ ks):=by
 unfold Go.Proofs.YthgenmkengbmmaaGreatDoor.AM.condS AD
 simp only [iJ,Bool.and_eq_true,decide_eq_true_eq] at hx
 simp only [List.append_assoc,List.cons_append,List.nil_append]
 refine LX.selS hx.1.1 (Off.cons (by decide)) ?_
 refine LX.sp (by decide) ?_
 exact LX.signS hx.1.2 (LX.sp (by decide) (LX.printN hx.2 ho h))
theorem OY (w:Str) (d:Int) (t:Str) (h:Off (isR true) t):Off (isR true) (optS w d ++ t):=by
 unfold optS; split
 ·exact Off.cons (by decide)
 ·exact h
theorem LX.optS {w:Str}{d:Int}{t:Str}{ks:List Kt} (hw:cJ w=true) (hd:tmB d=true) (ho:Off (isR true) t) (h:LX t ks):LX (Go.Proofs.YthgenmkengbmmaaGreatDoor.AM.optS w d ++ t) (Bh w d ++ ks):=by
 unfold Go.Proofs.YthgenmkengbmmaaGreatDoor.AM.optS Bh
 by_cases h0:0 < d
 ·rw [if_pos h0,if_pos h0]
  rw [List.cons_append,List.append_assoc]
  exact LX.sp (by decide) (LX.name hw (Off.cons (by decide)) (LX.sp (by decide) (LX.printD hd ho h)))
 ·rw [if_neg h0,if_neg h0]; exact h
theorem Uz (l:List aY) (t:Str) (h:Off (isR true) t):Off (isR true) (labS l ++ t):=by
 unfold labS; split
 ·exact h
 ·rcases l with _ | ⟨p,l⟩
  ·contradiction
  ·exact Off.cons (by decide)
theorem LX.pair {p:aY}{t:Str}{ks:List Kt} (hp:cJ p.1=true) (h:LX t ks):LX (p.1 ++ (61 :: (dC p.2 ++ t))) ((1,p.1) :: (4,[61]) :: (3,p.2) :: ks) :=
 LX.name hp (Off.cons (by decide)) (LX.sign3 (c:=61) (d:=34) (by decide) (by decide) (by decide) (LX.text h))
theorem LX.labM:∀ (ps:List aY) {t:Str}{ks:List Kt},(∀ p ∈ ps,cJ p.1=true)→LX t ks→LX (Go.Proofs.YthgenmkengbmmaaGreatDoor.AM.labM [44] ps ++ t) (vH [(4,[44])] ps ++ ks)
 | [],t,ks,_,h=>h
 | p :: ps,t,ks,hp,h=>by
  have ih:=LX.labM ps (fun q hq=>hp q (by simp [hq])) h
  have:=LX.pair (hp p (by simp)) ih
  unfold Go.Proofs.YthgenmkengbmmaaGreatDoor.AM.labM vH
  simp only [List.cons_append,List.nil_append,List.append_assoc]
  exact LX.sign1 (by decide) (by decide) this
theorem LX.labS {l:List aY}{t:Str}{ks:List Kt} (hl:gZ l=true) (h:LX t ks):LX (Go.Proofs.YthgenmkengbmmaaGreatDoor.AM.labS l ++ t) (DP l ++ ks):=by
 unfold Go.Proofs.YthgenmkengbmmaaGreatDoor.AM.labS DP
 have hp:=(wD.1 hl).2.1
 rcases l with _ | ⟨p,ps⟩
 ·exact h
 ·rw [if_neg (by simp),if_neg (by simp)]
  have ih:=LX.labM ps (fun q hq=>hp q (by simp [hq])) (LX.sign1 (c:=125) (by decide) (by decide) h)
  have:=LX.pair (hp p (by simp)) ih
  unfold Go.Proofs.YthgenmkengbmmaaGreatDoor.AM.labM vH
  simp only [List.cons_append,List.nil_append,List.append_assoc] at this ⊢
  refine LX.sp (by decide) (LX.word (c:=108) (w:=[97,98,101,108,115]) (by decide) (by decide) (Off.cons (by decide)) ?_)
  exact LX.sp (by decide) (LX.sign1 (by decide) (by decide) this)
theorem LX.ruleS {r:a6}{t:Str}{ks:List Kt} (hr:eB r=true) (h:LX t ks):LX (Go.Proofs.YthgenmkengbmmaaGreatDoor.AM.ruleS r ++ t) (H1 r ++ ks):=by
 unfold Go.Proofs.YthgenmkengbmmaaGreatDoor.AM.ruleS H1 KW
 simp only [eB,Bool.and_eq_true] at hr
 obtain ⟨⟨⟨⟨⟨h1,h2⟩,h3⟩,h4⟩,h5⟩,_⟩:=hr
 have hs:LX (59 :: t) ((4,[59]) :: ks):=LX.sign1 (by decide) (by decide) h
 have o1:Off (isR true) (59 :: t):=Off.cons (by decide)
 have e1:=LX.labS h5 hs
 have o2:=Uz r.Labels _ o1
 have e2:=LX.optS (w:=jE) (by decide) h4 o2 e1
 have o3:=OY jE r.Keep _ o2
 have e3:=LX.optS (w:=kG) (by decide) h3 o3 e2
 have o4:=OY kG r.For _ o3
 have e4:=LX.condS h2 o4 e3
 simp only [List.cons_append,List.nil_append,List.append_assoc]
 refine LX.name (s:=mO) (by decide) (Off.cons (by decide)) (LX.sp (by decide) ?_)
 refine LX.name h1 (Off.cons (by decide)) (LX.sign1 (by decide) (by decide) (LX.sp (by decide) ?_))
 exact e4
end Go.Proofs.YthgenmkengbmmaaGreatDoor.AM
