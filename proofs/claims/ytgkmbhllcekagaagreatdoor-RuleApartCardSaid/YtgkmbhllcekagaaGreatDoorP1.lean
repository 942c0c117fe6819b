/- A part of the proof: Lb, Yt, La, Lm, Li, Lj, E0, R0, R1, R2, R3, R4, R5, R6, R7, R8, Q1, Q2, R9, R10, R11, R12, R13, R14. -/
import Derived.Test.YtgkmbhllcekagaaGreatDoorTy
import Derived.Test.YtgkmbhllcekagaaGreatDoorA4
import Derived.Test.YtgkmbhllcekagaaGreatDoorX2
import Derived.Test.YtgkmbhllcekagaaGreatDoorMd
set_option linter.all false
/- Labels: what is computed, in plain words. -/
namespace Go.Proofs.YtgkmbhllcekagaaGreatDoor.AM
open Go
theorem Ai (a:Str):ltS a a=false:=BM _
theorem tN {a b c:Str} (h:ltS a b=true) (k:ltS b c=true):ltS a c=true:=DU h k
theorem Bv {a b:Str} (h:ltS a b=false) (k:ltS b a=false):a=b:=Dr h k
theorem BO {a b:Str} (h:ltS a b=true):ltS b a=false:=by
  cases hb:ltS b a
  · rfl
  · have:=tN h hb; rw [Ai] at this; cases this
theorem Fn {a b c:Str} (h:ltS a b=false) (k:ltS b c=false):ltS a c=false:=by
  cases hac:ltS a c
  · rfl
  · cases hba:ltS b a
    · have:=Bv h hba; subst this; rw [hac] at k; cases k
    · have:=tN hba hac; rw [this] at k; cases k
def pr (l:List aJ) (k:Nat):aJ:=l.getD k default
theorem cR {l:List aJ}{k:Nat} (h:k < l.length):l[k]?=some (pr l k):=by
  rw [pr,List.getD_eq_getElem?_getD,List.getElem?_eq_getElem h]; rfl
def oK (c:Int):Bool:=(decide (97≤c) && decide (c≤122)) || (decide (65≤c) && decide (c≤90)) || decide (c=95)
def uX (c:Int):Bool:=decide (48≤c) && decide (c≤57)
def nT (s:Str) (i:Nat):Bool:=oK (s.getD i 0).toNat || (uX (s.getD i 0).toNat && decide (i ≠ 0))
def b9 (s:Str):Bool:=decide (1≤s.length) && decide (s.length≤64) && (List.range s.length).all (nT s)
theorem Uc {s:Str}{k:Nat} (hk:k < s.length) (h:nT s k=false):b9 s=false:=by
  simp only [b9,Bool.and_eq_false_iff,List.all_eq_false,List.mem_range]
  exact .inr ⟨k,hk,by simp [h]⟩
theorem Th {s:Str} (h1:1≤s.length) (h2:s.length≤64) (h:∀ i,i < s.length→nT s i=true):b9 s=true:=by
  simp only [b9,h1,h2,decide_true,Bool.true_and,List.all_eq_true,List.mem_range]
  exact h
theorem Nm {s:Str} (h:s.length < 1 ∨ 64 < s.length):b9 s=false:=by
  simp only [b9,Bool.and_eq_false_iff,decide_eq_false_iff_not]
  omega
def eR (l:List aJ) (i:Nat):Bool:=b9 (pr l i).1 && decide ((pr l i).2.length≤64) && (decide (i=0) || ltS (pr l (i - 1)).1 (pr l i).1)
def gE (l:List aJ):Bool:=decide (l.length≤16) && (List.range l.length).all (eR l)
theorem L0 {l:List aJ} (h1:l.length≤16) (h:∀ i,i < l.length→eR l i=true):gE l=true:=by
  simp only [gE,h1,decide_true,Bool.true_and,List.all_eq_true,List.mem_range]
  exact h
theorem M4 {l:List aJ} (h:16 < l.length):gE l=false:=by
  simp only [gE,Bool.and_eq_false_iff,decide_eq_false_iff_not]; left; omega
def PV (l:List aJ):List aJ:=if gE l then l else []
def Lw (n:Str):List aJ→Str × Bool
  | []=>([],false)
  | p :: l=>if p.1=n then (p.2,true) else Lw n l
def Uu (l:List aJ) (n:Str):Str × Bool:=Lw n (PV l)
theorem oA {l:List aJ}{k:Nat} (hk:k < l.length):l.drop k=pr l k :: l.drop (k + 1):=by
  have hp:=cR hk
  rw [List.drop_eq_getElem_cons hk]
  congr 1
  rw [List.getElem?_eq_getElem hk] at hp
  exact Option.some.inj hp
theorem Lk {l:List aJ}{k:Nat} (hk:k < l.length):l.take (k + 1)=l.take k ++ [pr l k]:=by
  have hp:=cR hk
  rw [List.take_add_one,hp]; rfl
def GK (a b:Str):Int:=if ltS a b then -1 else if ltS b a then 1 else 0
theorem zU {a b:Str}:GK a b < 0 ↔ ltS a b=true:=by
  unfold GK
  split
  · simp [*]
  · split <;> simp [*]
def kH (p:aJ):Bool:=decide (64 < p.2.length)
def i8:List aJ→Bool
  | []=>false
  | p :: l=>l.any (fun q=>decide (q.1=p.1)) || i8 l
def Dy (p:aJ):List aJ→List aJ
  | []=>[p]
  | q :: l=>if ltS p.1 q.1 then p :: q :: l else q :: Dy p l
def m6:List aJ→List aJ
  | []=>[]
  | p :: l=>Dy p (m6 l)
def kR (l:List aJ):Int :=
  if 16 < l.length then 4 else if l.any kH then 4 else if l.all (fun p=>b9 p.1) then (if i8 l then 6 else 0) else 7
def eU (l:List aJ):List aJ × Int:=if kR l=0 then (m6 l,0) else ([],kR l)
theorem B4 (p:aJ):∀ l,(Dy p l).Perm (p :: l)
  | []=>.refl _
  | q :: l=>by
    unfold Dy
    split
    · exact .refl _
    · exact ((B4 p l).cons q).trans (.swap p q l)
theorem t8:∀ l,(m6 l).Perm l
  | []=>.refl _
  | p :: l=>(B4 p _).trans ((t8 l).cons p)
def Asc (l:List aJ):Prop:=l.Pairwise (fun p q=>ltS q.1 p.1=false)
theorem IL (p:aJ):∀ {l:List aJ},Asc l→Asc (Dy p l)
  | [],_=>by simp [Dy,Asc]
  | q :: l,h=>by
    obtain ⟨h1,h2⟩:=List.pairwise_cons.1 h
    unfold Dy
    split
    · rename_i hl
      refine List.pairwise_cons.2 ⟨?_,h⟩
      intro r hr
      rcases List.mem_cons.1 hr with rfl | hr
      · exact BO hl
      · have:=h1 r hr
        cases hc:ltS r.1 p.1
        · rfl
        · have:=tN hc hl; rw [h1 r hr] at this; cases this
    · rename_i hl
      refine List.pairwise_cons.2 ⟨?_,IL p h2⟩
      intro r hr
      rcases List.mem_cons.1 ((B4 p l).mem_iff.1 hr) with rfl | hr
      · simpa using hl
      · exact h1 r hr
theorem Cn:∀ l,Asc (m6 l)
  | []=>.nil
  | p :: l=>IL p (Cn l)
theorem yD:∀ {l:List aJ},i8 l=false→(l.map (·.1)).Nodup
  | [],_=>.nil
  | p :: l,h=>by
    simp only [i8,Bool.or_eq_false_iff,List.any_eq_false,decide_eq_true_eq] at h
    simp only [List.map_cons,List.nodup_cons,List.mem_map,not_exists,not_and]
    exact ⟨fun q hq=>h.1 q hq,yD h.2⟩
theorem D8:∀ {l m:List aJ},Asc l→Asc m→l.Perm m→(l.map (·.1)).Nodup→l=m
  | [],m,_,_,h,_=>(List.nil_perm.1 h).symm
  | p :: l,[],_,_,h,_=>absurd h.length_eq (by simp)
  | p :: l,q :: m,h1,h2,h3,h4=>by
    obtain ⟨a1,a2⟩:=List.pairwise_cons.1 h1
    obtain ⟨b1,b2⟩:=List.pairwise_cons.1 h2
    have hpq:p=q:=by
      have hp:p ∈ q :: m:=h3.mem_iff.1 List.mem_cons_self
      have hq:q ∈ p :: l:=h3.mem_iff.2 List.mem_cons_self
      rcases List.mem_cons.1 hp with h | hp
      · exact h
      rcases List.mem_cons.1 hq with h | hq
      · exact h.symm
      have e:=Bv (a1 q hq) (b1 p hp)
      have hn:=(List.nodup_cons.1 h4).1
      exact (hn (List.mem_map.2 ⟨q,hq,e⟩)).elim
    subst hpq
    rw [D8 a2 b2 (h3.cons_inv) (List.nodup_cons.1 h4).2]
theorem DL {l m:List aJ} (h:i8 l=false) (hp:m.Perm l) (ha:Asc m):m=m6 l :=
  D8 ha (Cn l) (hp.trans (t8 l).symm) ((hp.map (·.1)).nodup_iff.2 (yD h))
theorem Ej {l:List aJ}{k:Nat} (hk:k < l.length) (h:(l.take k).any (fun q=>decide (q.1=(pr l k).1))=true):i8 l=true:=by
  induction l generalizing k with
  | nil=>simp at hk
  | cons p l ih=>
    cases k with
    | zero=>simp at h
    | succ k=>
      have hp:pr (p :: l) (k + 1)=pr l k:=rfl
      rw [hp] at h
      simp only [List.take_succ_cons,List.any_cons,Bool.or_eq_true,decide_eq_true_eq] at h
      simp only [i8,Bool.or_eq_true,List.any_eq_true,decide_eq_true_eq]
      simp only [List.length_cons] at hk
      rcases h with h | h
      · left; exact ⟨pr l k,List.mem_of_getElem? (cR (by omega)),h.symm⟩
      · right; exact ih (by omega) h
theorem EC {l:List aJ} (h:∀ k,k < l.length→(l.take k).any (fun q=>decide (q.1=(pr l k).1))=false):i8 l=false:=by
  induction l with
  | nil=>rfl
  | cons p l ih=>
    simp only [i8,Bool.or_eq_false_iff]
    constructor
    · rw [List.any_eq_false]
      intro q hq
      obtain ⟨j,hj,rfl⟩:=List.mem_iff_getElem.1 hq
      have:=h (j + 1) (by simp; omega)
      simp only [List.take_succ_cons,List.any_cons,Bool.or_eq_false_iff] at this
      have e:pr (p :: l) (j + 1)=l[j]:=by
        have:=cR (l:=p :: l) (k:=j + 1) (by simp; omega)
        simp only [List.getElem?_cons_succ,List.getElem?_eq_getElem hj] at this
        exact (Option.some.inj this).symm
      rw [e] at this
      simp only [decide_eq_true_eq,decide_eq_false_iff_not] at this ⊢
      exact fun e=>this.1 e.symm
    · refine ih fun k hk=>?_
      have:=h (k + 1) (by simp; omega)
      simp only [List.take_succ_cons,List.any_cons,Bool.or_eq_false_iff] at this
      exact this.2
theorem Dx {l:List aJ}{e:Int} (h:kR l=e) (he:e ≠ 0):eU l=([],e):=by rw [eU,h,if_neg he]
theorem OQ {l:List aJ} (h:kR l=0):eU l=(m6 l,0):=by rw [eU,if_pos h]
def Pw (l:List aJ):Nat→Int
  | 0=>0
  | k + 1=>IntKind.i64.wrap (IntKind.i64.wrap (Pw l k + (pr l k).1.length) + (pr l k).2.length)
def J8 (l:List aJ):Bool:=decide (l.length≤40) && decide (Pw l l.length≤3000)
theorem O8 {l:List aJ} (h:J8 l=true):l.length≤40:=by
  simp only [J8,Bool.and_eq_true,decide_eq_true_eq] at h; exact h.1
structure uV (l:List aJ):Prop where
  len:l.length≤16
  short:∀ p ∈ l,kH p=false
  name:∀ p ∈ l,b9 p.1=true
  once:i8 l=false
theorem yF {l:List aJ}:kR l=0 ↔ uV l:=by
  unfold kR
  constructor
  · intro h
    split at h
    · cases h
    · rename_i h1
      split at h
      · cases h
      · rename_i h2
        split at h
        · rename_i h3
          split at h
          · cases h
          · rename_i h4
            exact ⟨by omega,by simpa using h2,by simpa using h3,by simpa using h4⟩
        · cases h
  · rintro ⟨h1,h2,h3,h4⟩
    rw [if_neg (by omega),if_neg (by simpa using h2),if_pos (by simpa using h3),if_neg (by simp [h4])]
theorem xD {l:List aJ}:i8 l=false ↔ (l.map (·.1)).Nodup:=by
  constructor
  · exact yD
  · intro h
    induction l with
    | nil=>rfl
    | cons p l ih=>
      obtain ⟨h1,h2⟩:=List.nodup_cons.1 h
      simp only [i8,Bool.or_eq_false_iff,List.any_eq_false,decide_eq_true_eq]
      exact ⟨fun q hq e=>h1 (List.mem_map.2 ⟨q,hq,e⟩),ih h2⟩
theorem uV.perm {l m:List aJ} (h:uV l) (hp:m.Perm l):uV m :=
  ⟨by rw [hp.length_eq]; exact h.len,fun p hm=>h.short p (hp.mem_iff.1 hm),fun p hm=>h.name p (hp.mem_iff.1 hm),
    xD.2 (((hp.map (·.1)).nodup_iff).2 (xD.1 h.once))⟩
theorem AJ {l:List aJ} (h:uV l):eU l=(m6 l,0):=OQ (yF.2 h)
theorem Jg {l:List aJ} (h:uV l) (ha:Asc l):m6 l=l:=(DL h.once (.refl l) ha).symm
theorem s6 {l:List aJ}:gE l=true ↔ l.length≤16∧(∀ p ∈ l,b9 p.1=true)∧(∀ p ∈ l,p.2.length≤64)∧l.Pairwise (fun p q=>ltS p.1 q.1=true):=by
  have hpr:∀ p ∈ l,∃ i,i < l.length∧pr l i=p:=by
    intro p hp
    obtain ⟨i,hi,rfl⟩:=List.mem_iff_getElem.1 hp
    have e:=cR hi
    rw [List.getElem?_eq_getElem hi] at e
    exact ⟨i,hi,(Option.some.inj e).symm⟩
  constructor
  · intro h
    simp only [gE,Bool.and_eq_true,decide_eq_true_eq,List.all_eq_true,List.mem_range] at h
    obtain ⟨h1,h2⟩:=h
    have h3:∀ i,i < l.length→b9 (pr l i).1=true∧(pr l i).2.length≤64∧(i=0 ∨ ltS (pr l (i - 1)).1 (pr l i).1=true):=by
      intro i hi
      have:=h2 i hi
      simp only [eR,Bool.and_eq_true,decide_eq_true_eq,Bool.or_eq_true] at this
      exact ⟨this.1.1,this.1.2,this.2⟩
    refine ⟨h1,?_,?_,?_⟩
    · intro p hp; obtain ⟨i,hi,rfl⟩:=hpr p hp; exact (h3 i hi).1
    · intro p hp; obtain ⟨i,hi,rfl⟩:=hpr p hp; exact (h3 i hi).2.1
    · rw [List.pairwise_iff_getElem]
      have key:∀ (d i:Nat),i + d + 1 < l.length→ltS (pr l i).1 (pr l (i + d + 1)).1=true:=by
        intro d
        induction d with
        | zero=>
          intro i hi
          rcases (h3 (i + 0 + 1) hi).2.2 with h | h
          · omega
          · simpa using h
        | succ d ih=>
          intro i hi
          have a:=ih i (by omega)
          rcases (h3 (i + (d + 1) + 1) hi).2.2 with h | h
          · omega
          · exact tN a (by simpa [Nat.add_assoc] using h)
      intro i j hi hj hij
      have e1:=cR hi
      have e2:=cR hj
      rw [List.getElem?_eq_getElem hi] at e1
      rw [List.getElem?_eq_getElem hj] at e2
      rw [Option.some.inj e1,Option.some.inj e2]
      have:=key (j - i - 1) i (by omega)
      rwa [show i + (j - i - 1) + 1=j from by omega] at this
  · rintro ⟨h1,h2,h3,h4⟩
    refine L0 h1 fun i hi=>?_
    have hm:pr l i ∈ l:=List.mem_of_getElem? (cR hi)
    simp only [eR,h2 _ hm,h3 _ hm,decide_true,Bool.true_and,Bool.or_eq_true,decide_eq_true_eq]
    rcases Nat.eq_zero_or_pos i with h | h
    · exact .inl h
    · right
      have:=List.pairwise_iff_getElem.1 h4 (i - 1) i (by omega) hi (by omega)
      have e1:=cR (l:=l) (k:=i - 1) (by omega)
      have e2:=cR hi
      rw [List.getElem?_eq_getElem (by omega)] at e1
      rw [List.getElem?_eq_getElem hi] at e2
      rw [Option.some.inj e1,Option.some.inj e2] at this
      exact this
theorem Dm {l:List aJ} (h:gE l=true):uV l∧Asc l:=by
  obtain ⟨h1,h2,h3,h4⟩:=s6.1 h
  refine ⟨⟨h1,fun p hp=>by have:=h3 p hp; simp only [kH,decide_eq_false_iff_not]; omega,h2,xD.2 ?_⟩,h4.imp fun h=>BO h⟩
  rw [List.Nodup,List.pairwise_map]
  exact h4.imp fun {a b} hab he=>by rw [he,Ai] at hab; cases hab
theorem Ie {l:List aJ} (h:uV l) (ha:Asc l):gE l=true:=by
  refine s6.2 ⟨h.len,h.name,fun p hp=>by have:=h.short p hp; simp only [kH,decide_eq_false_iff_not] at this; omega,?_⟩
  have hn:=xD.1 h.once
  rw [List.Nodup,List.pairwise_map] at hn
  refine (ha.and hn).imp ?_
  rintro a b ⟨h1,h2⟩
  cases hc:ltS a.1 b.1
  · exact (h2 (Bv hc h1)).elim
  · rfl
theorem LZ {l:List aJ} (h:uV l):gE (m6 l)=true:=Ie (h.perm (t8 l)) (Cn l)
theorem Np {l:List aJ} (h:¬ uV l):(eU l).1=[]∧(eU l).2 ≠ 0∧gE l=false:=by
  have hw:kR l ≠ 0:=fun e=>h (yF.1 e)
  rw [Dx rfl hw]
  refine ⟨rfl,hw,?_⟩
  cases hs:gE l
  · rfl
  · exact (h (Dm hs).1).elim
end Go.Proofs.YtgkmbhllcekagaaGreatDoor.AM
/- Tools for models. -/
namespace Go.Proofs.YtgkmbhllcekagaaGreatDoor.AM
open Go
section
variable {α β σ:Type}
@[simp] theorem aQ (enc:α→AV) (e:α) (m:α→Option β):aA enc e m=m e:=rfl
@[simp] theorem gI (enc:α→AV) (ob:α→List Obj) (e:α) (m:α→Option β):dT enc ob e m=m e:=rfl
@[simp] theorem bC (x:β):aH x=some x:=rfl
@[simp] theorem y6 (a b c:Nat) (m:Option β):Ce a b c m=m:=rfl
@[simp] theorem O1 (a b:Nat) (m:Option β):Mi a b m=m:=rfl
@[simp] theorem Oa (a:Nat) (m:Option β):IH a m=m:=rfl
@[simp] theorem Ov (a:Nat) (m:Option β):LN a m=m:=rfl
@[simp] theorem K4 (m:Option β):L4 m=m:=rfl
@[simp] theorem eW (m:Option β):fS m=m:=rfl
@[simp] theorem aV (x y:Option β):aG true x y=x:=rfl
@[simp] theorem bB (x y:Option β):aG false x y=y:=rfl
theorem FJ (b:Bool) (x y:Option β):aG b x y=if b=true then x else y:=rfl
@[simp] theorem aM (p:Prop) [Decidable p] (x y:Option β):aG (decide p) x y=if p then x else y:=by
  unfold aG; by_cases h:p <;> simp [h]
@[simp] theorem bE (b:Bool) (x y:Option β):aG (!b) x y=aG b y x:=by cases b <;> rfl
@[simp] theorem aC (enc:α→AV) (ob:α→List Obj) (a:α) (m:α→Option β):aI enc ob (some a) m=m a:=rfl
@[simp] theorem gZ (r:β):aY (σ:=σ) (some r)=some (.inr r):=rfl
@[simp] theorem Pg (x:σ):aU (β:=β) x=some (.inl x):=rfl
@[simp] theorem Oy (ph:σ→List (Nat × AV)) (ob:σ→List Obj) (rest:σ→Option β) (m:Option (σ ⊕ β)):pS ph ob rest m=m.bind (Sum.elim rest some):=rfl
theorem aN {p:Prop} [Decidable p] (h:p) (m:Option β):gdM p m=m:=if_pos h
theorem a7 {l:List α}{i:Nat}{x:α} (h:l[i]?=some x) (m:α→Option β):bG l (i:Int) m=m x:=by
  unfold bG; rw [if_pos (by omega),Int.toNat_natCast,h]; rfl
theorem cU {l:List α}{i:Int}{x:α} (h0:0≤i) (h:l[i.toNat]?=some x) (m:α→Option β):bG l i m=m x:=by
  unfold bG; rw [if_pos h0,h]; rfl
theorem aR {x:Int} (h:-9223372036854775808≤x∧x≤9223372036854775807):wI x=x:=IntWalk.i64_in x h
theorem cW {ph:σ→List (Nat × AV)}{ob:σ→List Obj}{step:σ→Option (σ ⊕ β)} (I:σ→Prop) (μ:σ→Nat) (F:σ→β)
    (h:∀ s,I s→step s=some (.inr (F s)) ∨ ∃ s',step s=some (.inl s')∧I s'∧μ s' < μ s∧F s'=F s) {s:σ} (hs:I s):bK ph ob step s=some (F s):=O6 I μ F h s hs
theorem eA {ph:Int→List (Nat × AV)}{ob:Int→List Obj}{step:Int→Option (Int ⊕ β)} (n:Nat) (F:Nat→β)
    (h1:∀ i,i < n→step (i:Int)=some (.inr (F i)) ∨ (step (i:Int)=some (.inl ((i + 1:Nat):Int))∧F (i + 1)=F i)) (h2:step (n:Int)=some (.inr (F n))):bK ph ob step 0=some (F 0):=by
  have:=cW (ph:=ph) (ob:=ob) (step:=step) (fun i:Int=>0≤i∧i≤n) (fun i=>(n - i).toNat) (fun i=>F i.toNat) (by
    rintro i ⟨h0,hn⟩
    obtain ⟨k,rfl⟩:=Int.eq_ofNat_of_zero_le h0
    rcases Nat.lt_or_ge k n with hk | hk
    · rcases h1 k hk with h | ⟨h,he⟩
      · exact .inl (by simpa using h)
      · exact .inr ⟨_,h,⟨by omega,by omega⟩,by omega,by simp only [Int.toNat_natCast]; exact he⟩
    · have:k=n:=by omega
      subst this
      exact .inl (by simpa using h2)) (s:=0) ⟨by omega,by omega⟩
  simpa using this
theorem LO {ph:Int→List (Nat × AV)}{ob:Int→List Obj}{step:Int→Option (Int ⊕ β)} (n:Nat) (J:Nat→Prop) (F:Nat→β)
    (h1:∀ i,i < n→J i→step (i:Int)=some (.inr (F i)) ∨ (step (i:Int)=some (.inl ((i + 1:Nat):Int))∧J (i + 1)∧F (i + 1)=F i)) (h2:J n→step (n:Int)=some (.inr (F n))) (h0:J 0):bK ph ob step 0=some (F 0):=by
  have:=cW (ph:=ph) (ob:=ob) (step:=step) (fun i:Int=>(0≤i∧i≤n)∧J i.toNat) (fun i=>(n - i).toNat) (fun i=>F i.toNat) (by
    rintro i ⟨⟨h0,hn⟩,hj⟩
    obtain ⟨k,rfl⟩:=Int.eq_ofNat_of_zero_le h0
    simp only [Int.toNat_natCast] at hj
    rcases Nat.lt_or_ge k n with hk | hk
    · rcases h1 k hk hj with h | ⟨h,hj',he⟩
      · exact .inl (by simpa using h)
      · exact .inr ⟨_,h,⟨⟨by omega,by omega⟩,by simpa using hj'⟩,by omega,by simp only [Int.toNat_natCast]; exact he⟩
    · have:k=n:=by omega
      subst this
      exact .inl (by simpa using h2 hj)) (s:=0) ⟨⟨by omega,by omega⟩,by simpa using h0⟩
  simpa using this
theorem L1 {ph:Int→List (Nat × AV)}{ob:Int→List Obj}{step:Int→Option (Int ⊕ β)} (F:Nat→β)
    (h0:step 0=some (.inr (F 0))) (n:Nat) (h1:∀ i,i < n→step ((i + 1:Nat):Int)=some (.inr (F (i + 1))) ∨ (step ((i + 1:Nat):Int)=some (.inl (i:Int))∧F i=F (i + 1))):bK ph ob step (n:Int)=some (F n):=by
  have:=cW (ph:=ph) (ob:=ob) (step:=step) (fun i:Int=>0≤i∧i≤n) (fun i=>i.toNat) (fun i=>F i.toNat) (by
    rintro i ⟨h0',hn⟩
    obtain ⟨k,rfl⟩:=Int.eq_ofNat_of_zero_le h0'
    cases k with
    | zero=>exact .inl (by simpa using h0)
    | succ k=>
      rcases h1 k (by omega) with h | ⟨h,he⟩
      · exact .inl (by simpa using h)
      · exact .inr ⟨_,h,⟨by omega,by omega⟩,by omega,by simp only [Int.toNat_natCast]; exact he⟩) (s:=(n:Int)) ⟨by omega,by omega⟩
  simpa using this
theorem ME {A:Type}{ph:Int × A→List (Nat × AV)}{ob:Int × A→List Obj}{step:Int × A→Option (Int × A ⊕ β)} (n:Nat) (J:Nat→A→Prop) (F:Nat→A→β)
    (h1:∀ i a,i < n→J i a→step ((i:Int),a)=some (.inr (F i a)) ∨ ∃ a',step ((i:Int),a)=some (.inl (((i + 1:Nat):Int),a'))∧J (i + 1) a'∧F (i + 1) a'=F i a) (h2:∀ a,J n a→step ((n:Int),a)=some (.inr (F n a))) {a:A} (h0:J 0 a):bK ph ob step (0,a)=some (F 0 a):=by
  have:=cW (ph:=ph) (ob:=ob) (step:=step) (fun s:Int × A=>(0≤s.1∧s.1≤n)∧J s.1.toNat s.2) (fun s=>(n - s.1).toNat) (fun s=>F s.1.toNat s.2) (by
    rintro ⟨i,a⟩ ⟨⟨h0,hn⟩,hj⟩
    simp only at h0 hn hj
    obtain ⟨k,rfl⟩:=Int.eq_ofNat_of_zero_le h0
    simp only [Int.toNat_natCast] at hj ⊢
    rcases Nat.lt_or_ge k n with hk | hk
    · rcases h1 k a hk hj with h | ⟨a',h,hj',he⟩
      · exact .inl h
      · exact .inr ⟨_,h,⟨⟨by simp only; omega,by simp only; omega⟩,by simpa using hj'⟩,by simp only; omega,by simpa using he⟩
    · have:k=n:=by omega
      subst this
      exact .inl (h2 a hj)) (s:=(0,a)) ⟨⟨by simp,by simp⟩,by simpa using h0⟩
  simpa using this
theorem fH {A:Type}{ph:A × Int→List (Nat × AV)}{ob:A × Int→List Obj}{step:A × Int→Option (A × Int ⊕ β)} (n:Nat) (J:Nat→A→Prop) (F:Nat→A→β)
    (h1:∀ i a,i < n→J i a→step (a,(i:Int))=some (.inr (F i a)) ∨ ∃ a',step (a,(i:Int))=some (.inl (a',((i + 1:Nat):Int)))∧J (i + 1) a'∧F (i + 1) a'=F i a) (h2:∀ a,J n a→step (a,(n:Int))=some (.inr (F n a))) {a:A} (h0:J 0 a):bK ph ob step (a,0)=some (F 0 a):=by
  have:=cW (ph:=ph) (ob:=ob) (step:=step) (fun s:A × Int=>(0≤s.2∧s.2≤n)∧J s.2.toNat s.1) (fun s=>(n - s.2).toNat) (fun s=>F s.2.toNat s.1) (by
    rintro ⟨a,i⟩ ⟨⟨h0,hn⟩,hj⟩
    simp only at h0 hn hj
    obtain ⟨k,rfl⟩:=Int.eq_ofNat_of_zero_le h0
    simp only [Int.toNat_natCast] at hj ⊢
    rcases Nat.lt_or_ge k n with hk | hk
    · rcases h1 k a hk hj with h | ⟨a',h,hj',he⟩
      · exact .inl h
      · exact .inr ⟨_,h,⟨⟨by simp only; omega,by simp only; omega⟩,by simpa using hj'⟩,by simp only; omega,by simpa using he⟩
    · have:k=n:=by omega
      subst this
      exact .inl (h2 a hj)) (s:=(a,0)) ⟨⟨by simp,by simp⟩,by simpa using h0⟩
  simpa using this
end
end Go.Proofs.YtgkmbhllcekagaaGreatDoor.AM
/- The models of package label, told in plain words: names, what is sane, got, taken away. -/
namespace Go.Proofs.YtgkmbhllcekagaaGreatDoor.AM
open Go
theorem K9 {s:Str}{k:Nat} (h:k < s.length):s[k]?=some (s.getD k 0):=by
  rw [List.getD_eq_getElem?_getD,List.getElem?_eq_getElem h]; rfl
theorem fK (a b:Bool):(bif a then true else b)=(a || b):=by cases a <;> rfl
theorem gM (a b:Bool):(bif a then b else false)=(a && b):=by cases a <;> rfl
theorem kG (s:Str):gW s=some (b9 s):=by
  unfold gW
  simp only [aQ,fK,gM]
  by_cases h:s.length < 1 ∨ 64 < s.length
  · rw [show (decide ((s.length:Int) < 1) || decide ((64:Int) < s.length))=true from by simp; omega]
    simp [Nm h]
  · rw [show (decide ((s.length:Int) < 1) || decide ((64:Int) < s.length))=false from by simp; omega]
    simp only [bB]
    refine (eA s.length (fun i=>(List.range s.length).all fun j=>decide (j < i) || nT s j) ?_ ?_).trans ?_
    rotate_right
    · congr 1
      rw [b9,decide_eq_true (show 1≤s.length by omega),decide_eq_true (show s.length≤64 by omega)]
      simp
    · intro i hi
      simp only [aM,a7 (K9 hi)]
      rw [if_pos (by omega)]
      have e:((!((decide ((97:Int)≤((s.getD i 0).toNat:Int)) && decide (((s.getD i 0).toNat:Int)≤122) || (decide ((65:Int)≤((s.getD i 0).toNat:Int)) && decide (((s.getD i 0).toNat:Int)≤90))) || decide (((s.getD i 0).toNat:Int)=95))) && ((!(decide ((48:Int)≤((s.getD i 0).toNat:Int)) && decide (((s.getD i 0).toNat:Int)≤57))) || decide ((i:Int)=0)))=!nT s i:=by
        simp only [nT,oK,uX]
        rw [show decide ((i:Int)=0)=!decide (i ≠ 0) from by by_cases h:i=0 <;> simp [h]]
        simp [Bool.not_or,Bool.not_and]
      rw [e,bE]
      cases ho:nT s i
      · left
        simp only [bB,bC,gZ,Option.some.injEq,Sum.inr.injEq]
        symm
        rw [List.all_eq_false]
        exact ⟨i,List.mem_range.2 hi,by simp [ho]⟩
      · right
        rw [aR (by omega)]
        refine ⟨by simp,?_⟩
        congr 1
        funext j
        by_cases hj:j=i
        · subst hj; simp [ho]
        · rw [show decide (j < i + 1)=decide (j < i) from by rw [decide_eq_decide]; omega]
    · simp only [aM]
      rw [if_neg (by omega)]
      simp only [bC,gZ,Option.some.injEq,Sum.inr.injEq]
      symm
      rw [List.all_eq_true]
      intro j hj
      rw [List.mem_range] at hj
      simp [hj]
theorem BN {n:Nat}{f:Nat→Bool}{i:Nat} (h:f i=true):((List.range n).all fun j=>decide (j < i + 1) || f j)=((List.range n).all fun j=>decide (j < i) || f j):=by
  congr 1
  funext j
  by_cases hj:j=i
  · subst hj; simp [h]
  · rw [show decide (j < i + 1)=decide (j < i) from by rw [decide_eq_decide]; omega]
theorem sC {n:Nat}{f:Nat→Bool}{i:Nat} (hi:i < n) (h:f i=false):((List.range n).all fun j=>decide (j < i) || f j)=false:=by
  rw [List.all_eq_false]; exact ⟨i,List.mem_range.2 hi,by simp [h]⟩
theorem FA {n:Nat}{f:Nat→Bool}:((List.range n).all fun j=>decide (j < n) || f j)=true:=by
  rw [List.all_eq_true]; intro j hj; rw [List.mem_range] at hj; simp [hj]
theorem DS {n:Nat}{f:Nat→Bool}:((List.range n).all fun j=>decide (j < 0) || f j)=(List.range n).all f:=by simp
theorem HO (l:List aJ):q5 l=some (gE l):=by
  unfold q5
  simp only [aQ,aM]
  by_cases h:16 < l.length
  · rw [if_pos (by omega),M4 h]; rfl
  · rw [if_neg (by omega)]
    refine (eA l.length (fun i=>(List.range l.length).all fun j=>decide (j < i) || eR l j) ?_ ?_).trans ?_
    rotate_right
    · rw [DS,gE,decide_eq_true (by omega)]; rfl
    · intro i hi
      simp only [aM,a7 (cR hi),kG,aC,bE]
      rw [if_pos (by omega)]
      cases h1:b9 (pr l i).1
      · left; simp [sC hi (show eR l i=false by simp [eR,h1])]
      · simp only [aV]
        by_cases h2:64 < (pr l i).2.length
        · left; rw [if_pos (by omega)]
          simp [sC hi (show eR l i=false by simp [eR,h1]; omega)]
        · rw [if_neg (by omega)]
          by_cases h3:i=0
          · subst h3
            right
            rw [if_neg (by omega),aR (by omega)]
            exact ⟨by simp,BN (by simp [eR,h1]; omega)⟩
          · rw [if_pos (by omega),aR (by omega),cU (x:=pr l (i - 1)) (by omega) (by rw [show ((i:Int) - 1).toNat=i - 1 from by omega]; exact cR (by omega))]
            cases h4:ltS (pr l (i - 1)).1 (pr l i).1
            · left; simp [sC hi (show eR l i=false by simp [eR,h1,h3,h4]),h4]
            · right
              rw [aR (by omega)]
              exact ⟨by simp,BN (by simp [eR,h1,h3,h4]; omega)⟩
    · rw [if_neg (by omega)]
      simp [FA]
end Go.Proofs.YtgkmbhllcekagaaGreatDoor.AM
/- The models of package label: made, with, merged, compared; the same, few. -/
namespace Go.Proofs.YtgkmbhllcekagaaGreatDoor.AM
open Go
theorem R4 (a b:Str):iU a b=some (GK a b):=by
  unfold iU jX GK
  simp only [aQ,bC,decide_true,Bool.not_true,aC,bB,FJ,Bool.false_eq_true,if_false]
  split
  · rfl
  · split <;> rfl
theorem Fl (p q:aJ):nA p q=some (GK p.1 q.1):=by
  unfold nA; rw [R4]; rfl
theorem Pd (l:List aJ) (h:l.length≤1000):fU l=some l:=by
  unfold fU
  simp only [gI,bC,List.nil_append,K4]
  rw [aN (by simp; omega)]
  unfold IR
  rw [if_pos (by rintro rfl; rfl)]
def Ax (l:List aJ):List (Str × Bool):=l.map fun p=>(p.1,true)
theorem H7 (n:Str):∀ l:List aJ,(mlk (Ax l) n).getD false=l.any (fun q=>decide (q.1=n))
  | []=>rfl
  | p :: l=>by
    have ih:=H7 n l
    simp only [Ax,List.map_cons,mlk,List.any_cons] at ih ⊢
    by_cases h:n=p.1
    · simp [h]
    · have e:decide (p.Name=n)=false:=by simp; exact fun e=>h e.symm
      rw [if_neg h,ih,e,Bool.false_or]
theorem Il {p:aJ}:∀ {l:List aJ},l.any (fun q=>decide (q.1=p.1))=false→mst (Ax l) p.1 true=Ax (l ++ [p])
  | [],_=>rfl
  | q :: l,h=>by
    simp only [List.any_cons,Bool.or_eq_false_iff,decide_eq_false_iff_not] at h
    have ih:=Il (p:=p) h.2
    simp only [Ax,List.map_cons,mst,List.cons_append] at ih ⊢
    rw [if_neg (fun e=>h.1 e.symm),ih]
theorem HL (l:List aJ):qP l=some (eU l):=by
  unfold qP
  simp only [aQ,aM]
  by_cases h16:16 < l.length
  · rw [if_pos (by omega),Dx (e:=4) (by rw [kR,if_pos h16]) (by decide)]; rfl
  rw [if_neg (by omega)]
  -- what follows, each loop by what is known
  have fin:∀ (i:Nat),i≤l.length→True:=fun _ _=>trivial
  refine (eA l.length (fun i=>if (l.drop i).any kH then ([],4) else if l.all (fun p=>b9 p.1) then (if i8 l then ([],6) else (m6 l,0)) else ([],7)) ?_ ?_).trans ?_
  · intro i hi
    simp only [aM,a7 (cR hi)]
    rw [if_pos (by omega),oA hi]
    by_cases ht:64 < (pr l i).2.length
    · left; rw [if_pos (by omega)]; simp [kH,ht]
    · right; rw [if_neg (by omega),aR (by omega)]
      refine ⟨by simp,?_⟩
      have:kH (pr l i)=false:=by simp only [kH,decide_eq_false_iff_not]; omega
      simp [this]
  · try simp only [aM]
    rw [if_neg (by omega)]
    simp only [List.drop_length,List.any_nil,Bool.false_eq_true,if_false]
    rw [eA l.length (fun i=>if (l.drop i).all (fun p=>b9 p.1) then (if i8 l then ([],6) else (m6 l,0)) else ([],7)) ?_ ?_]
    · rfl
    · intro i hi
      simp only [aM,a7 (cR hi),kG,aC,bE]
      rw [if_pos (by omega),oA hi]
      cases hn:b9 (pr l i).1
      · left; simp [hn]
      · right; rw [aR (by omega)]
        exact ⟨by simp,by simp [hn]⟩
    · try simp only [aM]
      rw [if_neg (by omega)]
      simp only [List.drop_length,List.all_nil,if_true,gI]
      rw [fH l.length (fun i m=>m=Ax (l.take i)∧∀ j,j < i→(l.take j).any (fun q=>decide (q.1=(pr l j).1))=false) (fun _ _=>if i8 l then ([],6) else (m6 l,0)) ?_ ?_ ⟨by simp [Ax],fun j hj=>by omega⟩]
      · rfl
      · rintro i m hi ⟨rfl,hj⟩
        simp only [aM,a7 (cR hi),gI,H7]
        rw [if_pos (by omega)]
        cases hs:(l.take i).any (fun q=>decide (q.1=(pr l i).1))
        · right
          rw [aR (by omega),bB,Il hs,← Lk hi]
          refine ⟨_,by simp,⟨rfl,fun j hj'=>?_⟩,trivial⟩
          by_cases e:j=i
          · subst e; exact hs
          · exact hj j (by omega)
        · left
          rw [Ej hi hs]
          rfl
      · rintro m ⟨rfl,hj⟩
        simp only [aM,Oa,Ov]
        rw [if_neg (by omega),Pd l (by omega),aC]
        have htw:i8 l=false:=EC hj
        rw [OX (y:=(m6 l,0)) (fun p q=>GK p.1 q.1) ⟨fun p _ q _=>Fl p q,fun p _=>by rw [zU,Ai]; simp,fun p _ q _ r _ h1 h2=>by rw [zU] at *; exact tN h1 h2,fun p _ q _ r _ h1 h2=>by rw [zU] at *; rw [Bool.not_eq_true] at *; exact Fn h1 h2,by omega⟩ ?_]
        · simp [htw]
        · intro l' hp hs
          rw [DL htw hp (hs.imp fun {a b} hab=>by rw [zU] at hab; simpa using hab)]
          rfl
  · simp only [List.drop_zero,eU,kR,h16,if_false,Option.some.injEq]
    split
    · rfl
    · split
      · split <;> simp
      · simp
theorem HN (a b:List aJ) (h:a.length≤9223372036854775807):qV a b=some (decide (a=b)):=by
  unfold qV
  simp only [aQ,bE,aM]
  by_cases hl:a.length=b.length
  · rw [if_pos (by omega)]
    refine (eA a.length (fun i=>decide (a.drop i=b.drop i)) ?_ ?_).trans (by simp)
    · intro i hi
      simp only [aM,a7 (cR hi),bE]
      rw [if_pos (by omega),a7 (cR (l:=b) (by omega)),oA hi,oA (l:=b) (by omega)]
      by_cases e:pr a i=pr b i
      · right
        rw [e]
        rw [aR (by omega)]
        exact ⟨by simp,by simp⟩
      · left
        rw [show (decide ((pr a i).Name=(pr b i).Name) && (decide ((pr a i).Value=(pr b i).Value) && true))=false from by
          rw [Bool.eq_false_iff]; intro h; simp at h; exact e (by cases hp:pr a i; cases hq:pr b i; rw [hp,hq] at h; simp at h; simp [h])]
        simp [e]
    · try simp only [aM]
      rw [if_neg (by omega)]
      simp [hl]
  · rw [if_neg (by omega)]
    have:a ≠ b:=by rintro rfl; exact hl rfl
    simp [this]
theorem It (l:List aJ) (h:l.length≤9223372036854775807):tE l=some (J8 l):=by
  unfold tE
  simp only [aQ]
  refine (fH l.length (fun i a=>a=Pw l i) (fun _ _=>J8 l) ?_ ?_ rfl).trans rfl
  · rintro i a hi rfl
    right
    simp only [aM,a7 (cR hi)]
    rw [if_pos (by omega),aR (x:=(i:Int) + 1) (by omega)]
    exact ⟨_,by simp; rfl,rfl,trivial⟩
  · rintro a rfl
    simp only [aM,gM]
    rw [if_neg (by omega),J8,show decide ((l.length:Int)≤40)=decide (l.length≤40) from by rw [decide_eq_decide]; omega]
    rfl
end Go.Proofs.YtgkmbhllcekagaaGreatDoor.AM
/- The document's answer for labels is the program's. -/
namespace Go.Proofs.YtgkmbhllcekagaaGreatDoor.AM
open Go
theorem Er (c:Int):nV c=some (oK c):=by
  unfold nV oK
  simp only [aQ,fK,gM,bC]
theorem kN (s:Str) (h:s.length≤9223372036854775807):gB s=some (b9 s):=by
  unfold gB
  simp only [aQ]
  refine (eA s.length (fun i=>(((List.range s.length).all fun j=>decide (j < i) || nT s j) && (decide (1≤s.length) && decide (s.length≤64)))) ?_ ?_).trans ?_
  · intro i hi
    simp only [aM,a7 (K9 hi),Er,aC,bE,fK,gM,Bool.true_or,Bool.false_or,Bool.and_false,Bool.and_true]
    rw [if_pos (by omega),aR (by omega)]
    have key:nT s i=(oK ((s.getD i 0).toNat:Int) || (uX ((s.getD i 0).toNat:Int) && decide (i ≠ 0))):=rfl
    generalize s.getD i 0=c at key ⊢
    have bad:nT s i=false→∀ b:Bool,false=(((List.range s.length).all fun j=>decide (j < i) || nT s j) && b):=fun h b=>by rw [sC hi h]; rfl
    have good:nT s i=true→∀ b:Bool,(((List.range s.length).all fun j=>decide (j < i + 1) || nT s j) && b)=(((List.range s.length).all fun j=>decide (j < i) || nT s j) && b):=fun h b=>by rw [BN h]
    cases h1:oK (c.toNat:Int)
    · simp only [bB]
      by_cases h0:i=0
      · left
        rw [if_pos (by omega)]
        simp only [aV,bC,gZ,Option.some.injEq,Sum.inr.injEq]
        exact bad (by rw [key,h1,h0]; simp) _
      · rw [if_neg (by omega)]
        by_cases h2:(c.toNat:Int) < 48
        · left; rw [if_pos h2]
          simp only [aV,bC,gZ,Option.some.injEq,Sum.inr.injEq]
          exact bad (by rw [key,h1,uX,decide_eq_false (by omega)]; simp) _
        · rw [if_neg h2]
          by_cases h3:57 < (c.toNat:Int)
          · left; rw [if_pos h3]
            simp only [bC,gZ,Option.some.injEq,Sum.inr.injEq]
            exact bad (by rw [key,h1,uX,decide_eq_false (show ¬ (c.toNat:Int)≤57 by omega)]; simp) _
          · right; rw [if_neg h3]
            exact ⟨by simp,good (by rw [key,h1,uX,decide_eq_true (show (48:Int)≤(c.toNat:Int) by omega),decide_eq_true (show (c.toNat:Int)≤57 by omega)]; simp [h0]) _⟩
    · right
      simp only [aV]
      exact ⟨by simp,good (by rw [key,h1]; simp) _⟩
  · simp only [aM]
    rw [if_neg (by omega)]
    simp only [gM,bC,gZ,FA,Bool.true_and]
    rw [show decide ((1:Int)≤(s.length:Int))=decide (1≤s.length) from by rw [decide_eq_decide]; omega,show decide ((s.length:Int)≤64)=decide (s.length≤64) from by rw [decide_eq_decide]; omega]
  · rw [DS,b9,Bool.and_comm]
theorem Hm (l:List aJ) (h:l.length≤9223372036854775807) (hs:∀ p ∈ l,p.1.length≤9223372036854775807):qU l=some (gE l):=by
  unfold qU
  simp only [aQ]
  refine (eA l.length (fun i=>(((List.range l.length).all fun j=>decide (j < i) || eR l j) && decide (l.length≤16))) ?_ ?_).trans ?_
  · intro i hi
    have hn:gB (pr l i).1=some (b9 (pr l i).1):=kN _ (hs _ (List.mem_of_getElem? (cR hi)))
    simp only [aM,a7 (cR hi),hn,aC,bE,eW,fK,gM,Bool.true_and,Bool.false_and]
    rw [if_pos (by omega),aR (x:=(i:Int) + 1) (by omega)]
    cases h1:b9 (pr l i).1
    · left; simp [sC hi (show eR l i=false by simp [eR,h1])]
    · simp only [aV]
      by_cases h2:64 < (pr l i).2.length
      · left; rw [if_pos (by omega)]
        simp [sC hi (show eR l i=false by simp [eR,h1]; omega)]
      · rw [if_neg (by omega)]
        by_cases h3:i=0
        · subst h3
          right
          rw [if_neg (by omega)]
          exact ⟨by simp,by rw [BN (show eR l 0=true by simp [eR,h1]; omega)]⟩
        · rw [if_pos (by omega),aR (by omega),cU (x:=pr l (i - 1)) (by omega) (by rw [show ((i:Int) - 1).toNat=i - 1 from by omega]; exact cR (by omega))]
          cases h4:ltS (pr l (i - 1)).1 (pr l i).1
          · left; simp [sC hi (show eR l i=false by simp [eR,h1,h3,h4]),h4]
          · right
            exact ⟨by simp,by rw [BN (show eR l i=true by simp [eR,h1,h3,h4]; omega)]⟩
  · simp only [aM]
    rw [if_neg (by omega)]
    simp only [bC,gZ,FA,Bool.true_and]
    rw [show decide ((l.length:Int)≤16)=decide (l.length≤16) from by rw [decide_eq_decide]; omega]
  · rw [DS,gE,Bool.and_comm]
def Sml (l:List aJ):Prop:=l.length≤1000000∧∀ p ∈ l,p.1.length≤9223372036854775807
theorem Sml.len {l:List aJ} (h:Sml l):l.length≤9223372036854775807:=by have:=h.1; omega
end Go.Proofs.YtgkmbhllcekagaaGreatDoor.AM
/- The document's answer for labels: made, with, merged. -/
namespace Go.Proofs.YtgkmbhllcekagaaGreatDoor.AM
open Go
theorem Gz (l:List aJ) (h:Sml l):pD l=some (kR l):=by
  unfold pD
  simp only [aQ,aM]
  by_cases h16:16 < l.length
  · rw [if_pos (by omega),kR,if_pos h16]; rfl
  rw [if_neg (by omega)]
  have hname:∀ i,i < l.length→gB (pr l i).1=some (b9 (pr l i).1):=fun i hi=>kN _ (h.2 _ (List.mem_of_getElem? (cR hi)))
  refine (eA l.length (fun i=>if (l.drop i).any kH then 4 else if l.all (fun p=>b9 p.1) then (if i8 l then 6 else 0) else 7) ?_ ?_).trans ?_
  · intro i hi
    simp only [aM,a7 (cR hi)]
    rw [if_pos (by omega),oA hi]
    by_cases ht:64 < (pr l i).2.length
    · left; rw [if_pos (by omega)]; simp [kH,ht]
    · right; rw [if_neg (by omega),aR (by omega)]
      refine ⟨by simp,?_⟩
      have:kH (pr l i)=false:=by simp only [kH,decide_eq_false_iff_not]; omega
      simp [this]
  · rw [if_neg (by omega)]
    simp only [List.drop_length,List.any_nil,Bool.false_eq_true,if_false]
    rw [eA l.length (fun i=>if (l.drop i).all (fun p=>b9 p.1) then (if i8 l then 6 else 0) else 7) ?_ ?_]
    · rfl
    · intro i hi
      simp only [aM,a7 (cR hi),hname i hi,aC,bE]
      rw [if_pos (by omega),oA hi]
      cases hn:b9 (pr l i).1
      · left; simp [hn]
      · right; rw [aR (by omega)]
        exact ⟨by simp,by simp [hn]⟩
    · rw [if_neg (by omega)]
      simp only [List.drop_length,List.all_nil,if_true]
      rw [LO l.length (fun i=>∀ j,j < i→(l.take j).any (fun q=>decide (q.1=(pr l j).1))=false) (fun _=>if i8 l then 6 else 0) ?_ ?_ (fun j hj=>by omega)]
      · rfl
      · intro i hi hj
        simp only [aM,a7 (cR hi)]
        rw [if_pos (by omega)]
        have inner:=eA (ph:=fun (x20:Int)=>[(0,sl aD l),(5,vI (i:Int)),(6,vI x20)]) (ob:=fun _=>[]) (step:=fun x20:Int=>if x20 < (i:Int) then bG l x20 fun x23=>if (pr l i).Name=x23.Name then aY (aY (aH (6:Int))) else aU (wI (x20 + 1)) else aY (aU (wI ((i:Int) + 1)))) i
          (fun k=>if ((l.take i).drop k).any (fun q=>decide (q.1=(pr l i).1)) then (.inr 6:Int ⊕ Int) else .inl ((i + 1:Nat):Int)) ?_ ?_
        · rw [inner]
          simp only [List.drop_zero]
          cases hs:(l.take i).any (fun q=>decide (q.1=(pr l i).1))
          · right
            refine ⟨by simp,fun j hj'=>?_,trivial⟩
            by_cases e:j=i
            · subst e; exact hs
            · exact hj j (by omega)
          · left; rw [Ej hi hs]; simp
        · intro k hk
          have hkl:k < (l.take i).length:=by simp; omega
          have hpk:pr (l.take i) k=pr l k:=by
            have h1:=cR hkl
            rw [List.getElem?_take,if_pos hk,cR (by omega)] at h1
            exact (Option.some.inj h1).symm
          rw [if_pos (by omega),a7 (cR (show k < l.length by omega)),oA hkl,hpk]
          by_cases e:(pr l i).1=(pr l k).1
          · left; rw [if_pos e]; simp [e]
          · right; rw [if_neg e,aR (by omega)]
            have e2:¬ (pr l k).Name=(pr l i).Name:=fun e'=>e e'.symm
            exact ⟨by simp,by simp [e2]⟩
        · rw [if_neg (by omega),aR (by omega)]
          simp
      · intro hj
        rw [if_neg (by omega)]
        have htw:i8 l=false:=EC hj
        simp [htw]
  · simp only [List.drop_zero,kR,h16,if_false,Option.some.injEq]
def k7 (out:List aJ) (p:aJ):Nat→Nat
  | 0=>0
  | k + 1=>if ltS p.1 (pr out k).1 then k7 out p k else k + 1
theorem FX (out:List aJ) (p:aJ):∀ k,k7 out p k≤k
  | 0=>Nat.le_refl _
  | k + 1=>by
    unfold k7
    split
    · have:=FX out p k; omega
    · exact Nat.le_refl _
theorem LF (out:List aJ) (p:aJ):∀ k j,k7 out p k≤j→j < k→ltS p.1 (pr out j).1=true
  | 0,j,_,h=>by omega
  | k + 1,j,h1,h2=>by
    unfold k7 at h1
    split at h1
    · rename_i hk
      by_cases e:j=k
      · subst e; exact hk
      · exact LF out p k j h1 (by omega)
    · omega
theorem LD (out:List aJ) (p:aJ):∀ k,k7 out p k=0 ∨ ltS p.1 (pr out (k7 out p k - 1)).1=false
  | 0=>.inl rfl
  | k + 1=>by
    unfold k7
    split
    · exact LD out p k
    · rename_i h; right; simpa using h
def Ga (out:List aJ) (p:aJ):List aJ:=out.take (k7 out p out.length) ++ [p] ++ out.drop (k7 out p out.length)
theorem NF (out:List aJ) (p:aJ):(Ga out p).Perm (p :: out):=by
  have e:Ga out p=out.take (k7 out p out.length) ++ p :: out.drop (k7 out p out.length):=by unfold Ga; simp
  rw [e]
  refine List.perm_middle.trans (List.Perm.cons p ?_)
  rw [List.take_append_drop]
theorem Qs {l:List aJ} (h:Asc l) {i j:Nat} (hij:i < j) (hj:j < l.length):ltS (pr l j).1 (pr l i).1=false:=by
  have h1:=List.pairwise_iff_getElem.1 h i j (by omega) hj hij
  have e1:=cR (l:=l) (k:=i) (by omega)
  have e2:=cR (l:=l) (k:=j) hj
  rw [List.getElem?_eq_getElem (by omega)] at e1 e2
  rw [← Option.some.inj e1,← Option.some.inj e2]; exact h1
theorem OB {out:List aJ} (h:Asc out) (p:aJ):Asc (Ga out p):=by
  have hle:=FX out p out.length
  have hhi:=LF out p out.length
  have hlo:=LD out p out.length
  unfold Ga Asc
  generalize k7 out p out.length=k at *
  have htk:∀ x ∈ out.take k,ltS p.1 x.1=false:=by
    intro x hx
    obtain ⟨i,hi,rfl⟩:=List.mem_take_iff_getElem.1 hx
    rcases hlo with h0 | h0
    · omega
    · have e1:=cR (l:=out) (k:=i) (by omega)
      rw [List.getElem?_eq_getElem (by omega)] at e1
      rw [Option.some.inj e1]
      by_cases e:i=k - 1
      · subst e; exact h0
      · exact Fn h0 (Qs h (show i < k - 1 by omega) (by omega))
  have hdr:∀ x ∈ out.drop k,ltS p.1 x.1=true:=by
    intro x hx
    obtain ⟨i,hi,rfl⟩:=List.mem_drop_iff_getElem.1 hx
    have e1:=cR (l:=out) (k:=k + i) (by omega)
    rw [List.getElem?_eq_getElem (by omega)] at e1
    rw [Option.some.inj e1]
    exact hhi (k + i) (by omega) (by omega)
  rw [List.append_assoc,List.pairwise_append]
  have hsplit:=h
  rw [Asc,← List.take_append_drop k out,List.pairwise_append] at hsplit
  refine ⟨hsplit.1,?_,?_⟩
  · rw [List.singleton_append,List.pairwise_cons]
    exact ⟨fun x hx=>BO (hdr x hx),hsplit.2.1⟩
  · intro x hx y hy
    rw [List.singleton_append] at hy
    rcases List.mem_cons.1 hy with rfl | hy
    · exact htk x hx
    · exact hsplit.2.2 x hx y hy
theorem HA (l:List aJ) (h:Sml l):q6 l=some (eU l):=by
  unfold q6
  rw [Gz l h,aC]
  simp only [aQ,bE,aM,y6]
  by_cases hw:kR l=0
  · rw [if_pos hw]
    have hg:=yF.1 hw
    rw [AJ hg]
    have h16:=hg.len
    refine (fH l.length (fun i out=>out.Perm (l.take i)∧Asc out) (fun _ _=>(m6 l,0)) ?_ ?_ ⟨by simp,by simp [Asc]⟩).trans rfl
    · rintro i out hi ⟨hp,ha⟩
      right
      have hlen:out.length=i:=by rw [hp.length_eq]; simp; omega
      refine ⟨Ga out (pr l i),?_,⟨?_,OB ha _⟩,rfl⟩
      · simp only [aM,Oy]
        rw [if_pos (by omega)]
        have inner:=L1 (ph:=fun (x8:Int)=>[(0,sl aD l),(5,so 0 aD out),(6,vI (i:Int)),(7,vI x8)]) (ob:=fun (x8:Int)=>[tk out.length 2 47]) (β:=Int ⊕ (List aJ × Int ⊕ List aJ × Int)) (step:=fun x8:Int=>if (0:Int) < x8 then bG out (wI (x8 - 1)) fun x11=>bG l (i:Int) fun x12=>aG (ltS x12.Name x11.Name) (aU (wI (x8 - 1))) (aY (aU x8)) else aY (aU x8))
          (fun k=>.inl ((k7 out (pr l i) k:Nat):Int)) ?_ out.length ?_
        · rw [inner]
          have hk:=FX out (pr l i) out.length
          simp only [Option.bind_some,Sum.elim_inl]
          have t1:(out.take ((k7 out (pr l i) out.length:Nat):Int).toNat).drop (0:Int).toNat=out.take (k7 out (pr l i) out.length):=by simp
          have t2:(out.take (out.length:Int).toNat).drop ((k7 out (pr l i) out.length:Nat):Int).toNat=out.drop (k7 out (pr l i) out.length):=by simp
          rw [aN (by omega),t1,t2,aN (by simp; omega)]
          simp only [gI,O1,Pg]
          rw [a7 (cR hi),aN (by simp; omega),aN (by omega),aN (by simp; omega),aR (by omega)]
          rfl
        · simp [k7]
        · intro k hk
          rw [if_pos (by omega),aR (by omega),cU (x:=pr out k) (by omega) (by rw [show (((k + 1:Nat):Int) - 1).toNat=k from by omega]; exact cR hk),a7 (cR hi)]
          cases hlt:ltS (pr l i).1 (pr out k).1
          · left; simp [k7,hlt]
          · right; rw [show ((k + 1:Nat):Int) - 1=(k:Int) from by omega]; simp [k7,hlt]
      · refine (NF out _).trans ?_
        rw [Lk hi]
        exact (List.Perm.cons _ hp).trans (List.perm_append_comm (l₁:=[pr l i]) (l₂:=l.take i))
    · rintro out ⟨hp,ha⟩
      rw [if_neg (by omega)]
      rw [List.take_length] at hp
      rw [DL hg.once hp ha]; rfl
  · rw [if_neg hw,Dx rfl hw]; rfl
end Go.Proofs.YtgkmbhllcekagaaGreatDoor.AM
/- Loops that keep a property. -/
namespace Go.Proofs.YtgkmbhllcekagaaGreatDoor.AM
open Go
theorem t7 {σ β:Type}{ph:σ→List (Nat × AV)}{ob:σ→List Obj}{step:σ→Option (σ ⊕ β)} (I:σ→Prop) (μ:σ→Nat) (Q:β→Prop)
    (h:∀ s,I s→(∃ r,step s=some (.inr r)∧Q r) ∨ ∃ s',step s=some (.inl s')∧I s'∧μ s' < μ s):∀ {s:σ},I s→∃ r,bK ph ob step s=some r∧Q r:=by
  have key:∀ n s,μ s=n→I s→∃ r,bK ph ob step s=some r∧Q r:=by
    intro n
    induction n using Nat.strongRecOn with
    | ind n ih=>
      intro s hn hs
      unfold bK
      rw [yZ]
      rcases h s hs with ⟨r,e,hq⟩ | ⟨s',e,hi,hm⟩
      · exact ⟨r,by rw [e]; rfl,hq⟩
      · obtain ⟨r,e2,hq⟩:=ih (μ s') (by omega) s' rfl hi
        exact ⟨r,by rw [e]; exact e2,hq⟩
  intro s hs
  exact key _ s rfl hs
theorem LU {σ:Type}{ph:σ→List (Nat × AV)}{ob:σ→List Obj}{step:σ→Option (σ ⊕ Bool)} (I:σ→Prop) (μ:σ→Nat)
    (h:∀ s,I s→step s=some (.inr true) ∨ ∃ s',step s=some (.inl s')∧I s'∧μ s' < μ s) {s:σ} (hs:I s):bK ph ob step s=some true:=by
  obtain ⟨r,e,hr⟩:=t7 (ph:=ph) (ob:=ob) I μ (fun r=>r=true) (fun s hs=>by
    rcases h s hs with h | h
    · exact .inl ⟨true,h,rfl⟩
    · exact .inr h) hs
  rw [e,hr]
end Go.Proofs.YtgkmbhllcekagaaGreatDoor.AM
/- What is sane, the same, few. -/
namespace Go.Proofs.YtgkmbhllcekagaaGreatDoor.AM
open Go
section
variable {α:Type} [Inhabited α]
def nth (l:List α) (k:Nat):α:=l.getD k default
theorem bQ {l:List α}{k:Nat} (h:k < l.length):l[k]?=some (nth l k):=by
  rw [nth,List.getD_eq_getElem?_getD,List.getElem?_eq_getElem h]; rfl
theorem iI {l:List α}{k:Nat} (h:k < l.length):nth l k ∈ l:=by
  rw [nth,List.getD_eq_getElem?_getD,List.getElem?_eq_getElem h]; exact List.getElem_mem h
theorem eF {l:List α}{k:Nat} (hk:k < l.length):l.drop k=nth l k :: l.drop (k + 1):=by
  have hp:=bQ hk
  rw [List.drop_eq_getElem_cons hk]
  congr 1
  rw [List.getElem?_eq_getElem hk] at hp
  exact Option.some.inj hp
end
def m0 (v:Int):Bool:=decide (-9007199254740992≤v) && decide (v≤9007199254740992)
theorem xT (v:Int):nH v=some (m0 v):=by
  unfold nH
  simp only [aQ,gM]; rfl
def tmB (x:Int):Bool:=decide (0≤x) && decide (x≤9007199254740992)
theorem oD {x:Int}:tmB x=true ↔ 0≤x∧x≤9007199254740992:=by simp [tmB]
theorem lX {x:Int}:m0 x=true ↔ -9007199254740992≤x∧x≤9007199254740992:=by simp [m0]
def nmL:Str:=[95,95,110,97,109,101,95,95]
def anL:Str:=[97,108,101,114,116,110,97,109,101]
def asL:Str:=[97,108,101,114,116,115,116,97,116,101]
def mOk (m:a8):Bool:=b9 m.Name && decide (m.Value.length≤64)
def jE (s:bM):Bool:=b9 s.Name && decide (s.M.length≤8) && s.M.all mOk
theorem CY (s:bM):r5 s=some (jE s):=by
  unfold r5 jE
  simp only [kG,aC,aQ,bE,aM]
  cases b9 s.Name
  · rfl
  simp only [aV,Bool.true_and]
  by_cases h:8 < s.M.length
  · rw [if_pos (by omega),decide_eq_false (by omega)]; rfl
  rw [if_neg (by omega),decide_eq_true (show s.M.length≤8 by omega),Bool.true_and]
  refine (eA s.M.length (fun i=>(s.M.drop i).all mOk) ?_ ?_).trans (by simp)
  · intro i hi
    simp only [aM,a7 (bQ hi)]
    rw [if_pos (by omega),eF hi,List.all_cons]
    cases h1:b9 (nth s.M i).Name
    · left; simp [mOk,h1]
    · simp only [aV]
      by_cases h2:64 < (nth s.M i).Value.length
      · left; rw [if_pos (by omega)]; simp [mOk,show ¬ (nth s.M i).Value.length≤64 from by omega]
      · right; rw [if_neg (by omega),aR (by omega)]
        exact ⟨by simp,by simp [mOk,h1]; omega⟩
  · try simp only [aM]
    rw [if_neg (by omega)]
    simp
def gP (e:bF):Bool:=jE e.S && (decide (1≤e.Op) && decide (e.Op≤6)) && m0 e.V
theorem Ck (e:bF):qE e=some (gP e):=by
  unfold qE nF gP
  simp only [CY,aC,aQ,xT,gM,bC]
  cases jE e.S
  · rfl
  cases (decide (1≤e.Op) && decide (e.Op≤6)) <;> rfl
theorem xP (v:Int):nS v=some (tmB v):=by
  unfold nS
  simp only [aQ,gM]; rfl
def mI (n:Str):Bool:=decide (n=nmL) || decide (n=anL) || decide (n=asL)
theorem j3 (n:Str):eZ n=some (mI n):=by
  unfold eZ mI
  simp only [aQ,fK,bC]; rfl
theorem u6 (l:List aJ) (h:l.length≤1000000):kE l=some (l.any fun p=>mI p.1):=by
  unfold kE
  simp only [aQ]
  refine (eA l.length (fun i=>(l.drop i).any fun p=>mI p.1) ?_ ?_).trans (by simp)
  · intro i hi
    simp only [aM,a7 (cR hi),j3,aC]
    rw [if_pos (by omega),oA hi,List.any_cons]
    cases h1:mI (pr l i).1
    · right; rw [aR (by omega)]; exact ⟨by simp,by simp⟩
    · left; simp
  · try simp only [aM]
    rw [if_neg (by omega)]
    simp
def dB (r:aZ):Bool:=b9 r.Name && gP r.E && tmB r.For && tmB r.Keep && gE r.Labels && !r.Labels.any fun p=>mI p.1
theorem gA (r:aZ):eM r=some (dB r):=by
  unfold eM dB
  simp only [kG,aC,aQ,Ck,xP,HO,bC]
  cases b9 r.Name
  · rfl
  cases gP r.E
  · rfl
  cases tmB r.For
  · rfl
  cases tmB r.Keep
  · rfl
  cases h:gE r.Labels
  · rfl
  simp only [aV]
  rw [u6 _ (by have:=(s6.1 h).1; omega)]
  rfl
def II (s:bM):Prop:=s.Name.length≤9223372036854775807∧s.M.length≤9223372036854775807∧∀ m ∈ s.M,m.Name.length≤9223372036854775807
def Bs (r:aZ):Prop:=r.Name.length≤9223372036854775807∧II r.E.S∧Sml r.Labels
theorem Bl (s:bM) (h:II s):oB s=some (jE s):=by
  obtain ⟨h1,h2,h3⟩:=h
  unfold oB
  simp only [aQ]
  refine (eA s.M.length (fun i=>(s.M.drop i).all mOk && (b9 s.Name && decide (s.M.length≤8))) ?_ ?_).trans ?_
  · intro i hi
    simp only [aM,a7 (bQ hi),bE,kN _ (h3 _ (iI hi)),aC]
    rw [if_pos (by omega),eF hi,List.all_cons]
    cases h4:b9 (nth s.M i).Name
    · left; simp [mOk,h4]
    · simp only [aV]
      by_cases h5:64 < (nth s.M i).Value.length
      · left; rw [if_pos (by omega)]; simp [mOk,show ¬ (nth s.M i).Value.length≤64 from by omega]
      · right; rw [if_neg (by omega),aR (by omega)]
        exact ⟨by simp,by simp [mOk,h4,show (nth s.M i).Value.length≤64 from by omega]⟩
  · simp only [aM]
    rw [if_neg (by omega),kN _ h1,aC]
    cases b9 s.Name
    · simp
    · simp only [aV,bC,gZ,List.drop_length,List.all_nil,Bool.true_and]
      rw [show decide ((s.M.length:Int)≤8)=decide (s.M.length≤8) from by rw [decide_eq_decide]; omega]
  · unfold jE
    rw [List.drop_zero,Bool.and_comm]
theorem pR (v:Int):oI v=some (m0 v):=by
  unfold oI
  simp only [aQ,gM]; rfl
theorem Bd (v:Int):lV v=some (tmB v):=by
  unfold lV
  simp only [aQ,gM]; rfl
theorem Be (e:bF) (h:II e.S):oH e=some (gP e):=by
  unfold oH gP
  simp only [Bl _ h,aC,aQ,pR,bC]
  cases jE e.S
  · rfl
  cases decide (1≤e.Op)
  · rfl
  cases decide (e.Op≤6) <;> rfl
theorem tX (n:Str):jQ n=some (mI n):=by
  unfold jQ mI
  simp only [aQ,fK,bC]; rfl
theorem Bi (l:List aJ) (h:l.length≤1000000):nZ l=some (!l.any fun p=>mI p.1):=by
  unfold nZ
  simp only [aQ]
  refine (eA l.length (fun i=>!(l.drop i).any fun p=>mI p.1) ?_ ?_).trans (by simp)
  · intro i hi
    simp only [aM,a7 (cR hi),tX,aC]
    rw [if_pos (by omega),oA hi,List.any_cons]
    cases h1:mI (pr l i).1
    · right; rw [aR (by omega)]; exact ⟨by simp,by simp⟩
    · left; simp
  · try simp only [aM]
    rw [if_neg (by omega)]
    simp
theorem Bh (r:aZ) (h:Bs r):n5 r=some (dB r):=by
  obtain ⟨h1,h2,h3⟩:=h
  unfold n5 dB
  simp only [kN _ h1,aC,Be _ h2,Bd,Hm _ h3.len h3.2,Bi _ h3.1,bC]
  cases b9 r.Name
  · rfl
  cases gP r.E
  · rfl
  cases tmB r.For
  · rfl
  cases tmB r.Keep
  · rfl
  cases gE r.Labels <;> rfl
theorem Hq (a b:bM) (h:a.M.length≤9223372036854775807):qR a b=some (decide (a=b)):=by
  unfold qR
  simp only [aQ,bE,aM,bC]
  by_cases h1:a.Name=b.Name
  · rw [if_pos h1]
    by_cases h2:(a.M.length:Int)=b.M.length
    · rw [if_pos h2]
      have h2:a.M.length=b.M.length:=by omega
      refine (eA a.M.length (fun i=>decide (a.M.drop i=b.M.drop i)) ?_ ?_).trans ?_
      · intro i hi
        simp only [a7 (bQ hi),a7 (bQ (h2 ▸ hi)),bE]
        rw [if_pos (by omega),eF (l:=a.M) hi,eF (l:=b.M) (show i < b.M.length by omega)]
        by_cases h3:nth a.M i=nth b.M i
        · right
          rw [h3,aR (by omega)]
          refine ⟨by simp,by simp⟩
        · left
          rw [show (decide ((nth a.M i).Name=(nth b.M i).Name) && (decide ((nth a.M i).Value=(nth b.M i).Value) && ((nth a.M i).Not == (nth b.M i).Not && true)))=false from by
            apply Bool.eq_false_iff.2
            intro h4
            apply h3
            simp only [Bool.and_eq_true,decide_eq_true_eq,beq_iff_eq,and_true] at h4
            generalize nth a.M i=x at *
            generalize nth b.M i=y at *
            cases x; cases y
            simp only at h4
            obtain ⟨rfl,rfl,rfl⟩:=h4
            rfl]
          simp [h3]
      · rw [if_neg (by omega)]
        simp [h2]
      · congr 1
        rw [decide_eq_decide]
        simp only [List.drop_zero]
        constructor
        · intro h3; cases a; cases b; simp_all
        · intro h3; rw [h3]
    · rw [if_neg h2]
      congr 1
      symm; rw [decide_eq_false_iff_not]
      intro h3; apply h2; rw [h3]
  · rw [if_neg h1]
    congr 1
    symm; rw [decide_eq_false_iff_not]
    intro h3; apply h1; rw [h3]
theorem mM (a b:aZ) (h:Bs a):iM a b=some (decide (a=b)):=by
  unfold iM uJ
  simp only [Hq _ _ h.2.1.2.1,HN _ _ h.2.2.len,aC,aQ,aM,bC]
  obtain ⟨n,⟨s,op,v⟩,fr,kp,l⟩:=a
  obtain ⟨n',⟨s',op',v'⟩,fr',kp',l'⟩:=b
  simp only [aZ.mk.injEq,bF.mk.injEq]
  by_cases h1:n=n'
  · by_cases h2:s=s'
    · by_cases h3:op=op'
      · by_cases h4:v=v'
        · by_cases h5:fr=fr'
          · by_cases h6:kp=kp'
            · simp [h1,h2,h3,h4,h5,h6]
            · simp [h1,h2,h3,h4,h5,h6]
          · simp [h1,h2,h3,h4,h5]
        · simp [h1,h2,h3,h4]
      · simp [h1,h2,h3]
    · simp [h1,h2]
  · simp [h1]
end Go.Proofs.YtgkmbhllcekagaaGreatDoor.AM
/- Texts in quotes. -/
namespace Go.Proofs.YtgkmbhllcekagaaGreatDoor.AM
open Go
def dV (c:UInt8):Str:=if c=92 then [92,92] else if c=34 then [92,34] else if c=10 then [92,110] else [c]
def cN (s:Str):Str:=34 :: (s.flatMap dV ++ [34])
theorem j9 (c:UInt8) (k:Nat) (hk:k < 256):((c.toNat:Int)=(k:Int)) ↔ c=UInt8.ofNat k:=by
  constructor
  · intro h
    have h:c.toNat=k:=by omega
    rw [← h]; simp
  · rintro rfl
    simp [Nat.mod_eq_of_lt hk]
theorem zL (c:UInt8) (k:Nat) (hk:k < 256):decide ((c.toNat:Int)=(k:Int))=decide (c=UInt8.ofNat k):=by
  rw [decide_eq_decide]; exact j9 c k hk
theorem DI (c:UInt8):1≤(dV c).length∧(dV c).length≤2:=by
  unfold dV
  repeat' split
  all_goals simp
theorem G8 (c:UInt8):fG [(c.toNat:Int)]=[c]:=by simp [fG]
theorem w4 (s:Str):(cN s).length≤2 * s.length + 2:=by
  have:(s.flatMap dV).length≤2 * s.length:=by
    induction s with
    | nil=>simp
    | cons c s ih=>
      rw [List.flatMap_cons,List.length_append,List.length_cons]
      have:=(DI c).2
      omega
  simp only [cN,List.length_cons,List.length_append,List.length_nil]; omega
theorem J1 (c:UInt8):(if ((c.toNat:Int)=92) then fG [(92:Int),(c.toNat:Int)] else if ((c.toNat:Int)=34) then fG [(92:Int),(c.toNat:Int)] else if ((c.toNat:Int)=10) then fG [(92:Int),(110:Int)] else fG [(c.toNat:Int)])=dV c:=by
  unfold dV
  have h1:=j9 c 92 (by decide)
  have h2:=j9 c 34 (by decide)
  have h3:=j9 c 10 (by decide)
  simp only [Int.cast_ofNat_Int] at h1 h2 h3
  by_cases k1:c=92
  · subst k1; rfl
  rw [if_neg (fun h=>k1 (h1.1 h)),if_neg k1]
  by_cases k2:c=34
  · subst k2; rfl
  rw [if_neg (fun h=>k2 (h2.1 h)),if_neg k2]
  by_cases k3:c=10
  · subst k3; rfl
  rw [if_neg (fun h=>k3 (h3.1 h)),if_neg k3]
  exact G8 c
theorem BR (s:Str) (h:s.length≤1000000):jN s=some (cN s):=by
  unfold jN
  simp only [gI,aQ]
  refine (fH s.length (fun i a=>a.length≤1 + 2 * i) (fun i a=>fG a ++ (s.drop i).flatMap dV ++ [34]) ?_ ?_ (by simp)).trans (by simp [cN,fG])
  · intro i a hi ha
    right
    simp only [aM,a7 (bQ hi)]
    rw [if_pos (by omega),eF hi,aR (by omega)]
    simp only [List.flatMap_cons]
    rw [← J1 (nth s i)]
    by_cases k1:((nth s i).toNat:Int)=92
    · rw [if_pos k1,if_pos k1,aN (by simp; omega)]
      exact ⟨_,rfl,by simp; omega,by simp [dZ]⟩
    rw [if_neg k1,if_neg k1]
    by_cases k2:((nth s i).toNat:Int)=34
    · rw [if_pos k2,if_pos k2,aN (by simp; omega)]
      exact ⟨_,rfl,by simp; omega,by simp [dZ]⟩
    rw [if_neg k2,if_neg k2]
    by_cases k3:((nth s i).toNat:Int)=10
    · rw [if_pos k3,if_pos k3,aN (by simp; omega)]
      exact ⟨_,rfl,by simp; omega,by simp [dZ]⟩
    rw [if_neg k3,if_neg k3,aN (by simp; omega)]
    exact ⟨_,rfl,by simp; omega,by simp [dZ]⟩
  · intro a ha
    simp only [aM]
    rw [if_neg (by omega),aN (by simp; omega)]
    simp [dZ,fG]
theorem zJ (s:Str) (h:s.length≤1000000):gR s=some (cN s):=by
  unfold gR
  simp only [gI,aQ]
  refine (fH s.length (fun i a=>a.length≤1 + 2 * i) (fun i a=>fG a ++ (s.drop i).flatMap dV ++ [34]) ?_ ?_ (by simp)).trans (by simp [cN,fG])
  · intro i a hi ha
    right
    simp only [aM,a7 (bQ hi)]
    rw [if_pos (by omega),eF hi,aR (by omega)]
    simp only [List.flatMap_cons]
    rw [← J1 (nth s i)]
    by_cases k1:((nth s i).toNat:Int)=92
    · rw [if_pos k1,if_pos k1,aN (by simp; omega)]
      exact ⟨_,rfl,by simp; omega,by simp [dZ]⟩
    rw [if_neg k1,if_neg k1]
    by_cases k2:((nth s i).toNat:Int)=34
    · rw [if_pos k2,if_pos k2,aN (by simp; omega)]
      exact ⟨_,rfl,by simp; omega,by simp [dZ]⟩
    rw [if_neg k2,if_neg k2]
    by_cases k3:((nth s i).toNat:Int)=10
    · rw [if_pos k3,if_pos k3,aN (by simp; omega)]
      exact ⟨_,rfl,by simp; omega,by simp [dZ]⟩
    rw [if_neg k3,if_neg k3,aN (by simp; omega)]
    exact ⟨_,rfl,by simp; omega,by simp [dZ]⟩
  · intro a ha
    simp only [aM]
    rw [if_neg (by omega),aN (by simp [fG]; omega)]
    simp [fG]
end Go.Proofs.YtgkmbhllcekagaaGreatDoor.AM
/- Numbers, parsed. -/
namespace Go.Proofs.YtgkmbhllcekagaaGreatDoor.AM
open Go
theorem NE (s:Str) (k:Nat) (h:k < s.length):(bs s).get! k=nth s k:=NU s (bQ h)
theorem MD (s:Str) (k:Nat) (h:k < s.length) (hc:(nth s k).toNat < 128):Utf8.decode (bs s) k=((nth s k).toNat,1):=by
  unfold Utf8.decode
  simp only [Nat.add_zero,NE s k h]
  rw [if_pos hc]
theorem KA (s:Str) (k:Nat) (h:k < s.length) (hc:128≤(nth s k).toNat):128≤(Utf8.decode (bs s) k).1:=by
  unfold Utf8.decode
  simp only [Nat.add_zero,NE s k h]
  rw [if_neg (by omega)]
  split
  · (try dsimp only)
    split
    · assumption
    · decide
  · split
    · (try dsimp only)
      split
      · rename_i h1
        simp only [Bool.and_eq_true,decide_eq_true_eq,ge_iff_le] at h1
        have:=h1.1; omega
      · decide
    · split
      · (try dsimp only)
        split
        · rename_i h1
          simp only [Bool.and_eq_true,decide_eq_true_eq,ge_iff_le] at h1
          have:=h1.1; omega
        · decide
      · decide
theorem OI {β:Type} (s:Str) (k:Nat) (f:Int→Nat→Option β) (g:Option β) (h:s.length≤k):Ap s k f g=g:=by
  unfold Ap; rw [if_neg (by omega)]
theorem Pl {β:Type} (s:Str) (k:Nat) (f:Int→Nat→Option β) (g:Option β) (h:k < s.length) (hc:(nth s k).toNat < 128):Ap s k f g=f ((nth s k).toNat:Int) (k + 1):=by
  unfold Ap EI; rw [if_pos h,MD s k h hc]
theorem Oh {β:Type} (s:Str) (k:Nat) (f:Int→Nat→Option β) (g:Option β) (h:k < s.length) (hc:128≤(nth s k).toNat):∃ r w,128≤r∧Ap s k f g=f r w:=by
  unfold Ap EI
  rw [if_pos h]
  exact ⟨_,_,by have:=KA s k h hc; omega,rfl⟩
def n7 (v d:Int):Int:=min (v * 10 + d) 9007199254740993
theorem CZ (v d:Int) (h:0≤v∧v≤9007199254740993) (hd:0≤d∧d≤9):p5 v d=some (n7 v d):=by
  unfold p5 n7
  simp only [aQ,bC]
  rw [aR (show -9223372036854775808≤v * 10∧v * 10≤9223372036854775807 by omega),aR (by omega)]
theorem DY {v d:Int} (h:0≤v∧v≤9007199254740993) (hd:0≤d∧d≤9):0≤n7 v d∧n7 v d≤9007199254740993:=by
  unfold n7; omega
def m8:Str→Int→Int→Int→Bool→Option (Int × Int × Int × Bool)
  | [],v,w,p,b=>some (v,w,p,b)
  | c :: s,v,w,p,b=>
    if c=46∧b=false∧0 < w then m8 s v w p true
    else if c.toNat < 48 ∨ 57 < c.toNat then none
    else if b=true then m8 s (n7 v (c.toNat - 48:Int)) w (p + 1) true
    else m8 s (n7 v (c.toNat - 48:Int)) (w + 1) p false
theorem nY (c:UInt8) (s:Str) (v w p:Int) (b:Bool):m8 (c :: s) v w p b=if c=46∧b=false∧0 < w then m8 s v w p true
    else if c.toNat < 48 ∨ 57 < c.toNat then none
    else if b=true then m8 s (n7 v (c.toNat - 48:Int)) w (p + 1) true
    else m8 s (n7 v (c.toNat - 48:Int)) (w + 1) p false:=rfl
theorem B0 (v w p:Int) (b:Bool):m8 [] v w p b=some (v,w,p,b):=rfl
def sA:Nat→Int→Int
  | 0,v=>v
  | n + 1,v=>sA n (n7 v 0)
def BZ (below:Bool):Option (Int × Int × Int × Bool)→Int × Int
  | none=>(0,1)
  | some (v,w,p,b)=>if w=0 ∨ 3 < p ∨ (b=true∧p=0) then (0,1) else if m0 (sA (3 - p).toNat v) then (if below then -sA (3 - p).toNat v else sA (3 - p).toNat v,0) else (0,2)
def fY (s:Str):Str × Bool:=match s with | 45 :: t=>(t,true) | _=>(s,false)
def LK (s:Str):Int × Int:=BZ (fY s).2 (m8 (fY s).1 0 0 0 false)
theorem Cp (s p:Str) (h:s.length≤9223372036854775807):eS s p=some (decide (s.take p.length=p)):=by
  unfold eS
  simp only [aQ,aM,bC]
  by_cases h1:p.length≤s.length
  · rw [if_pos (by omega),aN (by omega)]
    simp
  · rw [if_neg (by omega)]
    congr 1; symm
    rw [decide_eq_false_iff_not]
    intro h2
    have:=congrArg List.length h2
    rw [List.length_take] at this; omega
theorem Iw (s:Str) (h:s.length≤9223372036854775807):jI s [45]=some (fY s):=by
  unfold jI i6
  rw [Cp s _ h]
  simp only [aC,aQ,bE,aM,bC]
  match s with
  | []=>rfl
  | c :: t=>
    unfold fY
    by_cases hc:c=45
    · subst hc
      simp only [List.length_cons,List.length_nil] at *
      rw [if_pos (by simp),aN (by omega)]
      simp
    · rw [if_neg (by simpa using hc)]
      simp only [aC]
      split
      · rename_i h1; cases h1; exact absurd rfl hc
      · rfl
theorem Uk {x:Int} (h:0≤x∧x≤9):IntKind.i32.wrap x=x:=by
  obtain ⟨h1,h2⟩:=h
  have:x=0 ∨ x=1 ∨ x=2 ∨ x=3 ∨ x=4 ∨ x=5 ∨ x=6 ∨ x=7 ∨ x=8 ∨ x=9:=by omega
  rcases this with rfl | rfl | rfl | rfl | rfl | rfl | rfl | rfl | rfl | rfl <;> decide
theorem O4 {ph:Int × Int→List (Nat × AV)}{ob:Int × Int→List Obj}{β:Type} (fin:Int→Option β) (n:Nat) (hn:n≤3) (G:Int→β)
    (hG:∀ v,0≤v∧v≤9007199254740993→fin v=some (G v)) (v:Int) (hv:0≤v∧v≤9007199254740993) :
    bK ph ob (fun (x25:Int × Int)=>if x25.2 < (n:Int) then aI vI (fun _=>[]) (p5 x25.1 0) fun x27=>aU (x27,wI (x25.2 + 1)) else aY (fin x25.1)) (v,0)=some (G (sA n v)):=by
  refine (fH n (fun i a=>0≤a∧a≤9007199254740993) (fun i a=>G (sA (n - i) a)) ?_ ?_ hv).trans (by simp)
  · intro i a hi ha
    right
    rw [if_pos (by simp only; omega)]
    simp only []
    rw [CZ _ _ ha (by omega),aC,aR (by omega)]
    refine ⟨n7 a 0,by simp,DY ha (by omega),?_⟩
    rw [show n - i=(n - (i + 1)) + 1 by omega]; rfl
  · intro a ha
    rw [if_neg (by simp only; omega)]
    simp only []
    rw [hG a ha]
    simp [sA]
theorem Je (s:Str) (h:s.length≤1000000):tF s=some (LK s):=by
  unfold tF
  rw [Iw s (by omega),aC]
  have ht:(fY s).1.length≤1000000:=by
    unfold fY; split
    · simp at h; simp; omega
    · exact h
  unfold LK
  generalize fY s=cb at *
  obtain ⟨t,below⟩:=cb
  simp only at ht ⊢
  simp only [aQ]
  refine cW (fun x:Nat × Int × Int × Int × Bool=>x.1≤t.length∧(0≤x.2.1∧x.2.1≤9007199254740993)∧(0≤x.2.2.1∧x.2.2.1≤x.1)∧(0≤x.2.2.2.1∧x.2.2.2.1≤x.1)) (fun x=>t.length - x.1)
    (fun x=>BZ below (m8 (t.drop x.1) x.2.1 x.2.2.1 x.2.2.2.1 x.2.2.2.2)) ?_ (by simp)
  rintro ⟨k,v,w,p,b⟩ ⟨hk,hv,hw,hp⟩
  simp only at hk hv hw hp ⊢
  rcases Nat.lt_or_ge k t.length with hkt | hkt
  · rw [eF hkt]
    rcases Nat.lt_or_ge (nth t k).toNat 128 with hc | hc
    · rw [Pl _ _ _ _ hkt hc,nY]
      rw [show (bif bif decide (((nth t k).toNat:Int)=46) then !b else false then decide (0 < w) else false)=decide (nth t k=46∧b=false∧0 < w) from by
        have:=zL (nth t k) 46 (by decide)
        simp only [Int.cast_ofNat_Int] at this
        rw [this]
        by_cases h1:nth t k=46 <;> by_cases h2:0 < w <;> cases b <;> simp [h1,h2]]
      simp only [aM]
      by_cases hpt:nth t k=46∧b=false∧0 < w
      · rw [if_pos hpt,if_pos hpt]
        right
        exact ⟨(k + 1,v,w,p,true),rfl,⟨by simp only; omega,hv,by simp only; omega,by simp only; omega⟩,by simp only; omega,rfl⟩
      rw [if_neg hpt,if_neg hpt]
      rw [show (bif decide (((nth t k).toNat:Int) < 48) then true else decide ((57:Int) < ((nth t k).toNat:Int)))=decide ((nth t k).toNat < 48 ∨ 57 < (nth t k).toNat) from by
        by_cases h1:(nth t k).toNat < 48 <;> by_cases h2:57 < (nth t k).toNat <;> simp [h1,h2] <;> omega]
      simp only [aM]
      by_cases hbad:(nth t k).toNat < 48 ∨ 57 < (nth t k).toNat
      · rw [if_pos hbad,if_pos hbad]
        left; rfl
      rw [if_neg hbad,if_neg hbad]
      rw [Uk (by omega),aR (by omega),CZ _ _ hv (by omega),aC]
      right
      cases b
      · simp only [bB]
        rw [aR (by omega),if_neg (by simp)]
        exact ⟨(k + 1,_,w + 1,p,false),rfl,⟨by simp only; omega,DY hv (by omega),by simp only; omega,by simp only; omega⟩,by simp only; omega,rfl⟩
      · simp only [aV,if_true]
        rw [aR (by omega)]
        exact ⟨(k + 1,_,w,p + 1,true),rfl,⟨by simp only; omega,DY hv (by omega),by simp only; omega,by simp only; omega⟩,by simp only; omega,rfl⟩
    · obtain ⟨r,wd,hr,e⟩:=Oh t k _ _ hkt hc
      left
      rw [e]
      rw [show decide (r=46)=false from by simp; omega]
      rw [show decide (r < 48)=false from by simp; omega,show decide ((57:Int) < r)=true from by simp; omega]
      rw [nY,if_neg (by rintro ⟨h1,_⟩; rw [h1] at hc; revert hc; decide),if_pos (by omega)]
      rfl
  · left
    rw [OI _ _ _ _ hkt,List.drop_eq_nil_of_le hkt]
    rw [B0]
    unfold BZ
    rw [show (bif bif decide (w=0) then true else decide (3 < p) then true else bif b then decide (p=0) else false)=decide (w=0 ∨ 3 < p ∨ (b=true∧p=0)) from by
      by_cases h1:w=0 <;> by_cases h2:3 < p <;> by_cases h3:p=0 <;> cases b <;> simp [h1,h2,h3]]
    simp only [aM]
    by_cases hbad:w=0 ∨ 3 < p ∨ (b=true∧p=0)
    · rw [if_pos hbad,if_pos hbad]; rfl
    rw [if_neg hbad,if_neg hbad]
    rw [aR (by omega)]
    obtain ⟨n,hn⟩:=Int.eq_ofNat_of_zero_le (show 0≤3 - p by omega)
    rw [hn,Int.toNat_natCast]
    rw [O4 (fun v=>aI vB (fun _=>[]) (nH v) fun x29=>aG (!x29) (aH (0,2)) (aG below (aH (wI (0 - v),0)) (aH (v,0)))) n (by omega) (fun v=>if m0 v then (if below then -v else v,0) else (0,2)) ?_ v hv]
    · rfl
    · intro v hv
      rw [xT,aC,bE]
      cases m0 v
      · rfl
      · cases below
        · rfl
        · simp only [aV]
          rw [aR (by omega)]
          simp
end Go.Proofs.YtgkmbhllcekagaaGreatDoor.AM
/- Numbers, parsed: told by their digits. -/
namespace Go.Proofs.YtgkmbhllcekagaaGreatDoor.AM
open Go
def isD (c:UInt8):Bool:=decide (48≤c.toNat) && decide (c.toNat≤57)
theorem jR {c:UInt8}:isD c=true ↔ 48≤c.toNat∧c.toNat≤57:=by simp [isD]
theorem He {c:UInt8}:isD c=false ↔ c.toNat < 48 ∨ 57 < c.toNat:=by
  rw [Bool.eq_false_iff,Ne,jR]; omega
def kA (v:Int) (c:UInt8):Int:=v * 10 + (c.toNat - 48:Int)
def kB (cap v:Int) (c:UInt8):Int:=min (kA v c) cap
def gQ (l:Str):Int:=l.foldl kA 0
theorem iO:∀ (l:Str) {v:Int},(∀ c ∈ l,isD c=true)→0≤v→0≤l.foldl kA v
  | [],_,_,h=>h
  | c :: l,v,hl,h=>by
    rw [List.foldl_cons]
    have:=jR.1 (hl c (by simp))
    exact iO l (fun d hd=>hl d (by simp [hd])) (by unfold kA; omega)
theorem r8 {cap:Int} (hc:0≤cap):∀ (l:Str) {v:Int},(∀ c ∈ l,isD c=true)→0≤v→l.foldl (kB cap) (min v cap)=min (l.foldl kA v) cap
  | [],_,_,_=>rfl
  | c :: l,v,hl,h=>by
    rw [List.foldl_cons,List.foldl_cons]
    have:=jR.1 (hl c (by simp))
    rw [show kB cap (min v cap) c=min (kA v c) cap from by unfold kB kA; omega]
    exact r8 hc l (fun d hd=>hl d (by simp [hd])) (by unfold kA; omega)
theorem Lq:∀ (n:Nat) {v:Int},0≤v→sA n (min v 9007199254740993)=min (v * 10 ^ n) 9007199254740993
  | 0,v,_=>by simp [sA]
  | n + 1,v,h=>by
    unfold sA
    rw [show n7 (min v 9007199254740993) 0=min (v * 10) 9007199254740993 from by unfold n7; omega,Lq n (by omega),Int.pow_succ]
    congr 1
    rw [Int.mul_assoc,Int.mul_comm 10]
def pX (below:Bool) (x:Int):Int × Int:=if x≤9007199254740992 then (if below then -x else x,0) else (0,2)
def m4 (s:Str):Int × Int :=
  match (fY s).1.dropWhile isD with
  | []=>if (fY s).1.takeWhile isD=[] then (0,1) else pX (fY s).2 (gQ ((fY s).1.takeWhile isD) * 1000)
  | c :: r=>if c=46∧(fY s).1.takeWhile isD ≠ []∧r.dropWhile isD=[]∧1≤r.length∧r.length≤3 then pX (fY s).2 (gQ ((fY s).1.takeWhile isD ++ r) * 10 ^ (3 - r.length)) else (0,1)
theorem JA:∀ (l r:Str) (v w p:Int),(∀ c ∈ l,isD c=true)→m8 (l ++ r) v w p false=m8 r (l.foldl (kB 9007199254740993) v) (w + l.length) p false
  | [],r,v,w,p,_=>by simp
  | c :: l,r,v,w,p,hl=>by
    have h1:=jR.1 (hl c (by simp))
    rw [List.cons_append,nY,if_neg (by rintro ⟨rfl,_⟩; revert h1; decide),if_neg (by omega),if_neg (by simp),JA l r _ _ _ (fun d hd=>hl d (by simp [hd])),List.foldl_cons]
    simp only [List.length_cons]
    congr 1
    omega
theorem IG:∀ (l r:Str) (v w p:Int),(∀ c ∈ l,isD c=true)→m8 (l ++ r) v w p true=m8 r (l.foldl (kB 9007199254740993) v) w (p + l.length) true
  | [],r,v,w,p,_=>by simp
  | c :: l,r,v,w,p,hl=>by
    have h1:=jR.1 (hl c (by simp))
    rw [List.cons_append,nY,if_neg (by rintro ⟨_,h,_⟩; cases h),if_neg (by omega),if_pos rfl,IG l r _ _ _ (fun d hd=>hl d (by simp [hd])),List.foldl_cons]
    simp only [List.length_cons]
    congr 1
    omega
theorem jD (t:Str):∀ c ∈ t.takeWhile isD,isD c=true:=fun c hc=>by
  induction t with
  | nil=>simp at hc
  | cons a t ih=>
    rw [List.takeWhile_cons] at hc
    split at hc
    · rcases List.mem_cons.1 hc with rfl | hc
      · assumption
      · exact ih hc
    · simp at hc
theorem DQ {t:Str}{c:UInt8}{r:Str} (h:t.dropWhile isD=c :: r):isD c=false:=by
  induction t with
  | nil=>simp at h
  | cons a t ih=>
    rw [List.dropWhile_cons] at h
    split at h
    · exact ih h
    · rename_i h1; cases h; simpa using h1
theorem Lf (below:Bool) {x:Int} (h:0≤x) (n:Nat):(if m0 (sA n (min x 9007199254740993)) then (if below then -sA n (min x 9007199254740993) else sA n (min x 9007199254740993),(0:Int)) else (0,2))=pX below (x * 10 ^ n):=by
  rw [Lq n h]
  have hx:0≤x * 10 ^ n:=Int.mul_nonneg h (Int.pow_nonneg (by omega))
  unfold pX
  by_cases h1:x * 10 ^ n≤9007199254740992
  · rw [if_pos h1,if_pos (lX.2 (by omega)),show min (x * 10 ^ n) 9007199254740993=x * 10 ^ n from by omega]
  · rw [if_neg h1,if_neg (fun h2=>by have:=lX.1 h2; omega)]
theorem Qi (s:Str):LK s=m4 s:=by
  unfold LK m4
  generalize fY s=cb
  obtain ⟨t,below⟩:=cb
  dsimp only
  have e:=List.takeWhile_append_dropWhile (p:=isD) (l:=t)
  have hd:=jD t
  have hh:∀ c r',t.dropWhile isD=c :: r'→isD c=false:=fun c r' h=>DQ h
  revert e hh hd
  generalize t.takeWhile isD=ds
  generalize t.dropWhile isD=r
  intro e hd hh
  subst e
  have hv:=iO ds hd (Int.le_refl 0)
  have hs:=r8 (cap:=9007199254740993) (by omega) ds hd (Int.le_refl 0)
  simp only [show min (0:Int) 9007199254740993=0 from rfl] at hs
  rw [JA _ _ _ _ _ hd,hs]
  rcases r with _ | ⟨c,r⟩
  · rw [B0]
    unfold BZ
    dsimp only
    by_cases h1:ds=[]
    · subst h1; rfl
    · have:0 < ds.length:=List.length_pos_iff.2 h1
      rw [if_neg (by simp; omega),if_neg h1]
      exact Lf below hv 3
  · have hc:=He.1 (hh c r rfl)
    dsimp only
    rw [nY]
    by_cases h1:c=46∧false=false∧0 < 0 + (ds.length:Int)
    · rw [if_pos h1]
      have hne:ds ≠ []:=List.length_pos_iff.1 (by omega)
      have e:=List.takeWhile_append_dropWhile (p:=isD) (l:=r)
      have hd2:=jD r
      have hh2:∀ c r',r.dropWhile isD=c :: r'→isD c=false:=fun c r' h=>DQ h
      revert e hh2 hd2
      generalize r.takeWhile isD=ps
      generalize r.dropWhile isD=q
      intro e hd2 hh2
      subst e
      have hs2:=r8 (cap:=9007199254740993) (by omega) ps hd2 hv
      rw [IG _ _ _ _ _ hd2,hs2]
      rcases q with _ | ⟨c2,q⟩
      · rw [B0,List.append_nil]
        unfold BZ
        dsimp only
        by_cases h2:1≤ps.length∧ps.length≤3
        · rw [if_neg (show ¬(0 + (ds.length:Int)=0 ∨ 3 < 0 + (ps.length:Int) ∨ (true=true∧0 + (ps.length:Int)=0)) from by rintro (h | h | ⟨_,h⟩) <;> omega),if_pos (show c=46∧ds ≠ []∧([]:Str)=[]∧1≤ps.length∧ps.length≤3 from ⟨h1.1,hne,rfl,h2⟩)]
          rw [Lf below (iO ps hd2 hv),show (3 - (0 + (ps.length:Int))).toNat=3 - ps.length by omega]
          unfold gQ; rw [List.foldl_append]
        · rw [if_pos (show 0 + (ds.length:Int)=0 ∨ 3 < 0 + (ps.length:Int) ∨ (true=true∧0 + (ps.length:Int)=0) from by
            by_cases h4:ps.length=0
            · exact .inr (.inr ⟨rfl,by omega⟩)
            · exact .inr (.inl (by omega))),if_neg (show ¬(c=46∧ds ≠ []∧([]:Str)=[]∧1≤ps.length∧ps.length≤3) from fun h=>h2 h.2.2.2)]
      · have hc2:=He.1 (hh2 c2 q rfl)
        rw [nY,if_neg (by rintro ⟨_,h,_⟩; cases h),if_pos hc2,if_neg (by rintro ⟨_,_,h,_⟩; cases h)]
        rfl
    · rw [if_neg h1,if_pos hc,if_neg]
      · rfl
      · rintro ⟨h2,h3,_⟩
        exact h1 ⟨h2,rfl,by have:=List.length_pos_iff.2 h3; omega⟩
end Go.Proofs.YtgkmbhllcekagaaGreatDoor.AM
/- Numbers, parsed by the document's answer. -/
namespace Go.Proofs.YtgkmbhllcekagaaGreatDoor.AM
open Go
theorem lF {σ β:Type}{ph:σ→List (Nat × AV)}{ob:σ→List Obj}{rest:σ→Option β}{m:Option (σ ⊕ β)}{x:σ}{r:Option β} (hm:m=some (.inl x)) (h:rest x=r):pS ph ob rest m=r:=by
  subst hm; exact h
theorem Ln {σ β:Type}{ph:σ→List (Nat × AV)}{ob:σ→List Obj}{rest:σ→Option β}{m:Option (σ ⊕ β)}{y:β} (hm:m=some (.inr y)):pS ph ob rest m=some y:=by
  subst hm; rfl
theorem FF (c:UInt8):oS (c.toNat:Int)=some (isD c):=by
  unfold oS isD
  simp only [aQ,gM,bC]
  rw [show decide ((48:Int)≤(c.toNat:Int))=decide (48≤c.toNat) from by rw [decide_eq_decide]; omega,show decide ((c.toNat:Int)≤57)=decide (c.toNat≤57) from by rw [decide_eq_decide]; omega]
def GL (s:Str) (a:Nat):Nat:=((s.drop a).takeWhile isD).length
theorem rJ (s:Str) (a:Nat) (h:s.length≤1000000) (ha:a≤10000000):nJ s a=some (GL s a:Int):=by
  unfold nJ
  simp only [aQ]
  refine (cW (fun x:Int=>0≤x∧x≤s.length) (fun x=>s.length + 1 - (a + x.toNat)) (fun x=>x + (((s.drop (a + x.toNat)).takeWhile isD).length:Int)) ?_ (by simp)).trans (by simp [GL])
  rintro x ⟨h0,h1⟩
  obtain ⟨n,rfl⟩:=Int.eq_ofNat_of_zero_le h0
  rw [aR (by omega)]
  simp only [aM,Int.toNat_natCast]
  by_cases hl:a + n < s.length
  · rw [if_pos (by omega),show (a:Int) + (n:Int)=((a + n:Nat):Int) by omega,a7 (bQ hl),FF,aC,eF hl,List.takeWhile_cons]
    cases hd:isD (nth s (a + n))
    · left; simp
    · right
      simp only [aV]
      rw [aR (by omega)]
      refine ⟨((n + 1:Nat):Int),by simp,by omega,by omega,?_⟩
      simp only [Int.toNat_natCast,if_true,List.length_cons]
      rw [show a + (n + 1)=a + n + 1 by omega]
      omega
  · left
    rw [if_neg (by omega),List.drop_eq_nil_of_le (by omega)]
    simp
def sL (v:Int) (c:UInt8):Int:=if c=46 then v else kB 36028797018963968 v c
def AU:Nat→Int→Int
  | 0,v=>v
  | n + 1,v=>AU n (min (v * 10) 36028797018963968)
theorem Jn:∀ (n:Nat) {v:Int},0≤v→AU n (min v 36028797018963968)=min (v * 10 ^ n) 36028797018963968
  | 0,v,_=>by simp [AU]
  | n + 1,v,h=>by
    unfold AU
    rw [show min (min v 36028797018963968 * 10) 36028797018963968=min (v * 10) 36028797018963968 from by omega,Jn n (by omega),Int.pow_succ]
    congr 1
    rw [Int.mul_assoc,Int.mul_comm 10]
theorem Cu:∀ (l:Str) (v:Int),(∀ c ∈ l,isD c=true)→l.foldl sL v=l.foldl (kB 36028797018963968) v
  | [],_,_=>rfl
  | c :: l,v,hl=>by
    rw [List.foldl_cons,List.foldl_cons]
    have:=jR.1 (hl c (by simp))
    rw [show sL v c=kB 36028797018963968 v c from by unfold sL; rw [if_neg (by rintro rfl; revert this; decide)]]
    exact Cu l _ fun d hd=>hl d (by simp [hd])
theorem Iu {ph:Int × Int→List (Nat × AV)}{ob:Int × Int→List Obj}{ph2:Int × Int→List (Nat × AV)}{ob2:Int × Int→List Obj} (s:Str) (h:s.length≤1000000) (a q:Nat) (hq:q≤3) (ha:a≤1)
    (hall:∀ c ∈ s.drop a,c=46 ∨ isD c=true) (has:a≤s.length) :
    bK ph ob (fun x24:Int × Int=>if x24.2 < (s.length:Int) then bG s x24.2 fun x27=>if ¬((x27.toNat:Int)=46) then aU (min (wI (wI (wI (x24.1 * 10) + wI (x27.toNat:Int)) - 48)) 36028797018963968,wI (x24.2 + 1)) else aU (x24.1,wI (x24.2 + 1))
      else aY (bK ph2 ob2 (fun x36:Int × Int=>if x36.1 < 3 then aU (wI (x36.1 + 1),min (wI (x36.2 * 10)) 36028797018963968) else aY (if (9007199254740992:Int) < x36.2 then some ((0:Int),(2:Int)) else if (a:Int)=1 then some (wI (0 - x36.2),0) else some (x36.2,0))) ((q:Int),x24.1))) (0,(a:Int)) =
    some (let y:=AU (3 - q) ((s.drop a).foldl sL 0); if (9007199254740992:Int) < y then (0,2) else if (a:Int)=1 then (-y,0) else (y,0)):=by
  refine (cW (fun x:Int × Int=>(0≤x.1∧x.1≤36028797018963968)∧(a≤x.2∧x.2≤s.length)) (fun x=>s.length + 1 - x.2.toNat) (fun x=>(let y:=AU (3 - q) ((s.drop x.2.toNat).foldl sL x.1); if (9007199254740992:Int) < y then ((0:Int),(2:Int)) else if (a:Int)=1 then (-y,0) else (y,0))) ?_ (by simp only; omega)).trans (by simp)
  rintro ⟨v,i⟩ ⟨hv,hi⟩
  simp only at hv hi ⊢
  obtain ⟨n,rfl⟩:=Int.eq_ofNat_of_zero_le (show 0≤i by omega)
  simp only [Int.toNat_natCast]
  by_cases hl:n < s.length
  · right
    rw [if_pos (by omega),a7 (bQ hl),eF hl,List.foldl_cons]
    have hm:nth s n ∈ s.drop a:=by
      rw [List.mem_iff_getElem?]
      exact ⟨n - a,by rw [List.getElem?_drop,show a + (n - a)=n by omega]; exact bQ hl⟩
    have hk:=j9 (nth s n) 46 (by decide)
    simp only [Int.cast_ofNat_Int] at hk
    by_cases hp:nth s n=46
    · rw [if_neg (fun h=>h (hk.2 hp)),aR (by omega)]
      refine ⟨(v,((n + 1:Nat):Int)),by simp,⟨hv,by simp only; omega⟩,by simp only; omega,?_⟩
      simp only [Int.toNat_natCast]
      rw [show sL v (nth s n)=v from by unfold sL; rw [if_pos hp]]
    · have hd:=jR.1 ((hall _ hm).resolve_left hp)
      rw [if_pos (fun h=>hp (hk.1 h)),aR (show -9223372036854775808≤v * 10∧v * 10≤9223372036854775807 by omega),aR (show -9223372036854775808≤((nth s n).toNat:Int)∧((nth s n).toNat:Int)≤9223372036854775807 by omega),aR (show -9223372036854775808≤v * 10 + ((nth s n).toNat:Int)∧_ by omega),aR (show -9223372036854775808≤v * 10 + ((nth s n).toNat:Int) - 48∧_ by omega),aR (by omega)]
      refine ⟨(sL v (nth s n),((n + 1:Nat):Int)),?_,⟨?_,by simp only; omega⟩,by simp only; omega,by simp only [Int.toNat_natCast]⟩
      · rw [show sL v (nth s n)=min (v * 10 + ((nth s n).toNat:Int) - 48) 36028797018963968 from by unfold sL kB kA; rw [if_neg hp]; congr 1; omega]
        simp
      · simp only [sL,if_neg hp,kB,kA]; omega
  · left
    rw [if_neg (by omega),List.drop_eq_nil_of_le (by omega),List.foldl_nil]
    have:=cW (ph:=ph2) (ob:=ob2) (step:=fun x36:Int × Int=>if x36.1 < 3 then aU (wI (x36.1 + 1),min (wI (x36.2 * 10)) 36028797018963968) else aY (if (9007199254740992:Int) < x36.2 then some ((0:Int),(2:Int)) else if (a:Int)=1 then some (wI (0 - x36.2),0) else some (x36.2,0)))
      (fun x:Int × Int=>(0≤x.1∧x.1≤3)∧(0≤x.2∧x.2≤36028797018963968)) (fun x=>4 - x.1.toNat) (fun x=>(let y:=AU (3 - x.1.toNat) x.2; if (9007199254740992:Int) < y then ((0:Int),(2:Int)) else if (a:Int)=1 then (-y,0) else (y,0))) (by
        rintro ⟨j,v⟩ ⟨hj,hv⟩
        simp only at hj hv ⊢
        by_cases h3:j < 3
        · right
          rw [if_pos h3,aR (by omega),aR (by omega)]
          refine ⟨(j + 1,min (v * 10) 36028797018963968),rfl,⟨by simp only; omega,by simp only; omega⟩,by simp only; omega,?_⟩
          simp only
          rw [show 3 - j.toNat=3 - (j + 1).toNat + 1 by omega]
          rfl
        · left
          rw [if_neg h3,show 3 - j.toNat=0 by omega]
          simp only [AU]
          show aY _=some (Sum.inr (if (9007199254740992:Int) < v then ((0:Int),(2:Int)) else if (a:Int)=1 then (-v,0) else (v,0)))
          by_cases h4:(9007199254740992:Int) < v
          · rw [if_pos h4,if_pos h4]; rfl
          · rw [if_neg h4,if_neg h4]
            by_cases h5:(a:Int)=1
            · rw [if_pos h5,if_pos h5,aR (by omega),Int.zero_sub]; rfl
            · rw [if_neg h5,if_neg h5]; rfl) (s:=((q:Int),v)) ⟨by simp only; omega,hv⟩
    rw [this]
    simp
def Ip (below:Bool) (t:Str):Int × Int :=
  match t.dropWhile isD with
  | []=>if t.takeWhile isD=[] then (0,1) else pX below (gQ (t.takeWhile isD) * 1000)
  | c :: r=>if c=46∧t.takeWhile isD ≠ []∧r.dropWhile isD=[]∧1≤r.length∧r.length≤3 then pX below (gQ (t.takeWhile isD ++ r) * 10 ^ (3 - r.length)) else (0,1)
theorem M0 (s:Str):m4 s=Ip (fY s).2 (fY s).1:=rfl
theorem K8 (below:Bool) (a:Nat) (ha:(a:Int)=1 ↔ below=true) (l:Str) (hl:∀ c ∈ l,isD c=true) (n:Nat) :
    (let y:=AU n (l.foldl (kB 36028797018963968) 0); if (9007199254740992:Int) < y then ((0:Int),(2:Int)) else if (a:Int)=1 then (-y,0) else (y,0))=pX below (gQ l * 10 ^ n):=by
  have hv:=iO l hl (Int.le_refl 0)
  have hs:=r8 (cap:=36028797018963968) (by omega) l hl (Int.le_refl 0)
  simp only [show min (0:Int) 36028797018963968=0 from rfl] at hs
  have hx:0≤l.foldl kA 0 * 10 ^ n:=Int.mul_nonneg hv (Int.pow_nonneg (by omega))
  rw [hs,Jn n hv]
  unfold pX gQ
  simp only
  by_cases h1:l.foldl kA 0 * 10 ^ n≤9007199254740992
  · rw [if_neg (by omega),if_pos h1,show min (l.foldl kA 0 * 10 ^ n) 36028797018963968=l.foldl kA 0 * 10 ^ n from by omega]
    cases below
    · rw [if_neg (fun h=>by cases ha.1 h)]; rfl
    · rw [if_pos (ha.2 rfl)]; rfl
  · rw [if_pos (by omega),if_neg h1]
theorem Pn (s:Str):∃ a:Nat,a≤1∧a≤s.length∧((a:Int)=1 ↔ (fY s).2=true)∧s.drop a=(fY s).1∧(aA vI ((s.length:Int)) fun x2=>aA vB (decide ((0:Int) < x2)) fun x3=>aG x3 (bG s (0:Int) fun x4=>aA vB (decide ((x4.toNat:Int)=(45:Int))) fun x5=>aG x5 (aU (β:=Int × Int) (1:Int)) (aU (0:Int))) (aU (0:Int)))=some (.inl (a:Int)):=by
  match s with
  | []=>exact ⟨0,by simp [fY]⟩
  | c :: t=>
    have hk:=j9 c 45 (by decide)
    simp only [Int.cast_ofNat_Int] at hk
    by_cases hc:c=45
    · subst hc
      refine ⟨1,by omega,by simp,by simp [fY],by simp [fY],?_⟩
      simp only [aQ,aM]
      rw [if_pos (by simp only [List.length_cons]; omega),cU (x:=45) (by omega) (by simp),if_pos (by decide)]; rfl
    · refine ⟨0,by omega,by simp,?_,?_,?_⟩
      · unfold fY; split
        · rename_i h; cases h; exact absurd rfl hc
        · simp
      · unfold fY; split
        · rename_i h; cases h; exact absurd rfl hc
        · simp
      · simp only [aQ,aM]
        rw [if_pos (by simp only [List.length_cons]; omega),cU (x:=c) (by omega) (by simp),if_neg (fun h=>hc (hk.1 h))]; rfl
theorem FU (s:Str) (h:s.length≤1000000):o5 s=some (m4 s):=by
  obtain ⟨a,ha1,hal,hab,hdr,hat⟩:=Pn s
  unfold o5
  refine lF hat ?_
  rw [M0,← hdr]
  generalize (fY s).2=below at *
  have hrl:GL s a=((s.drop a).takeWhile isD).length:=rfl
  rw [rJ s a h (by omega),aC]
  have e:=List.takeWhile_append_dropWhile (p:=isD) (l:=s.drop a)
  have hd:=jD (s.drop a)
  have hh:∀ c r',(s.drop a).dropWhile isD=c :: r'→isD c=false:=fun c r' h=>DQ h
  have hlen:(s.drop a).length=s.length - a:=List.length_drop
  rw [hrl]
  unfold Ip
  revert e hh hd
  generalize hds:(s.drop a).takeWhile isD=ds
  generalize hr:(s.drop a).dropWhile isD=r
  intro e hd hh
  have hl2:s.length=a + (ds.length + r.length):=by rw [← e,List.length_append] at hlen; omega
  simp only [aQ]
  rw [aR (by omega)]
  have hdrop:s.drop (a + ds.length)=r:=by rw [← List.drop_drop,← e,List.drop_left]
  rcases r with _ | ⟨c,r⟩
  · have hle:¬ ((a:Int) + (ds.length:Int) < (s.length:Int)):=by rw [hl2]; simp
    refine lF (x:=((a:Int) + (ds.length:Int),0)) (by simp only [aM]; rw [if_neg hle]; rfl) ?_
    simp only [fK,aM,← Bool.decide_or,← decide_not]
    by_cases h1:ds=[]
    · subst h1
      rw [if_pos (by simp),if_pos rfl]; rfl
    · have:0 < ds.length:=List.length_pos_iff.2 h1
      rw [if_neg (by rw [hl2]; simp; omega),if_neg h1]
      refine (Iu s h a 0 (by omega) ha1 ?_ hal).trans ?_
      · rw [← e]; intro c hc; right; exact hd c (by simpa using hc)
      · rw [← e,List.append_nil,Cu _ _ hd]
        exact congrArg some (K8 below a hab ds hd 3)
  · simp only [List.length_cons] at hl2
    have hlt:(a:Int) + (ds.length:Int) < (s.length:Int):=by omega
    have hc:=hh c r rfl
    have hnth:s[a + ds.length]?=some c:=by
      have:=congrArg (·[0]?) hdrop
      simpa [List.getElem?_drop] using this
    have hk:=j9 c 46 (by decide)
    simp only [Int.cast_ofNat_Int] at hk
    have hdrop2:s.drop (a + ds.length + 1)=r:=by rw [← List.drop_drop,hdrop]; rfl
    have hpos:(a:Int) + (ds.length:Int)=((a + ds.length:Nat):Int):=by omega
    dsimp only
    by_cases hp:c=46
    · have hk2:=hk.2 hp
      by_cases hr3:1≤(r.takeWhile isD).length∧(r.takeWhile isD).length≤3
      · refine lF (x:=((a:Int) + (ds.length:Int) + 1 + ((r.takeWhile isD).length:Int),((r.takeWhile isD).length:Int))) ?_ ?_
        · simp only [aM]
          rw [if_pos hlt,hpos,a7 hnth,if_pos hk2,aR (by omega),show ((a + ds.length:Nat):Int) + 1=((a + ds.length + 1:Nat):Int) by omega,rJ _ _ h (by omega),aC]
          unfold GL
          rw [hdrop2]
          rw [show decide (((r.takeWhile isD).length:Int) < 1)=false from by simp; omega,show decide ((3:Int) < ((r.takeWhile isD).length:Int))=false from by simp; omega]
          rw [aR (by omega)]
          rfl
        · simp only [fK,aM,← Bool.decide_or,← decide_not]
          have e2:=List.takeWhile_append_dropWhile (p:=isD) (l:=r)
          have hd2:=jD r
          revert e2 hd2 hr3
          generalize r.takeWhile isD=ps
          generalize hq:r.dropWhile isD=q
          intro hr3 e2 hd2
          have hrl:r.length=ps.length + q.length:=by rw [← e2,List.length_append]
          by_cases h1:ds=[]
          · subst h1
            rw [if_pos (by simp),if_neg (fun h=>h.2.1 rfl)]; rfl
          · have:0 < ds.length:=List.length_pos_iff.2 h1
            by_cases h2:q=[]
            · subst h2
              rw [List.append_nil] at e2
              subst e2
              rw [if_neg (by rintro (h | h) <;> omega),if_pos ⟨hp,h1,rfl,hr3⟩]
              refine (Iu s h a ps.length hr3.2 ha1 ?_ hal).trans ?_
              · rw [← e]; intro d hd3
                rcases List.mem_append.1 hd3 with h4 | h4
                · exact .inr (hd d h4)
                · rcases List.mem_cons.1 h4 with h5 | h5
                  · left; rw [h5,hp]
                  · exact .inr (hd2 d h5)
              · rw [← e,List.foldl_append,List.foldl_cons,Cu _ _ hd,show sL (ds.foldl (kB 36028797018963968) 0) c=ds.foldl (kB 36028797018963968) 0 from by unfold sL; rw [if_pos hp],Cu _ _ hd2,← List.foldl_append]
                exact congrArg some (K8 below a hab (ds ++ ps) (fun d hd3=>(List.mem_append.1 hd3).elim (hd d) (hd2 d)) _)
            · have:0 < q.length:=List.length_pos_iff.2 h2
              rw [if_pos (by rw [hl2]; simp; omega),if_neg (fun h=>h2 h.2.2.1)]; rfl
      · rw [if_neg (by
          rintro ⟨_,_,h3,h4,h5⟩
          apply hr3
          have e2:=List.takeWhile_append_dropWhile (p:=isD) (l:=r)
          rw [h3,List.append_nil] at e2
          rw [e2]; exact ⟨h4,h5⟩)]
        refine Ln ?_
        simp only [aM]
        rw [if_pos hlt,hpos,a7 hnth,if_pos hk2,aR (by omega),show ((a + ds.length:Nat):Int) + 1=((a + ds.length + 1:Nat):Int) by omega,rJ _ _ h (by omega),aC]
        unfold GL
        rw [hdrop2]
        rw [show (bif decide (((r.takeWhile isD).length:Int) < 1) then true else decide ((3:Int) < ((r.takeWhile isD).length:Int)))=true from by
          rw [fK,← Bool.decide_or,decide_eq_true_eq]; omega]
        rfl
    · rw [if_neg (fun h=>hp h.1)]
      refine lF (x:=((a:Int) + (ds.length:Int),0)) ?_ ?_
      · simp only [aM]
        rw [if_pos hlt,hpos,a7 hnth,if_neg (fun h=>hp (hk.1 h))]; rfl
      · simp only [fK,aM,← Bool.decide_or,← decide_not]
        rw [if_pos (by right; omega)]; rfl
end Go.Proofs.YtgkmbhllcekagaaGreatDoor.AM
/- Numbers, printed. -/
namespace Go.Proofs.YtgkmbhllcekagaaGreatDoor.AM
open Go
open Go.Lib (decDigits)
def dgB (n:Nat):UInt8:=UInt8.ofNat (48 + n)
theorem iY {u:Nat} (h:u < 10):decDigits u=[dgB u]:=by rw [decDigits,dif_pos h]; rfl
theorem qJ {u:Nat} (h:¬ u < 10):decDigits u=decDigits (u / 10) ++ [dgB (u % 10)]:=by rw [decDigits,dif_neg h]; rfl
theorem tJ {n:Nat} (h:n < 10):(dgB n).toNat=48 + n:=by
  unfold dgB; rw [UInt8.toNat_ofNat']; omega
theorem oG {n:Nat} (h:n < 10):isD (dgB n)=true:=by
  rw [jR,tJ h]; omega
theorem uR:∀ (u:Nat),∀ c ∈ decDigits u,isD c=true:=by
  intro u
  induction u using Nat.strongRecOn with
  | ind u ih=>
    intro c hc
    by_cases h:u < 10
    · rw [iY h] at hc
      rw [List.mem_singleton.1 hc]; exact oG h
    · rw [qJ h] at hc
      rcases List.mem_append.1 hc with hc | hc
      · exact ih (u / 10) (by omega) c hc
      · rw [List.mem_singleton.1 hc]; exact oG (by omega)
theorem yX:∀ (u:Nat),gQ (decDigits u)=u:=by
  intro u
  induction u using Nat.strongRecOn with
  | ind u ih=>
    by_cases h:u < 10
    · rw [iY h]
      simp only [gQ,List.foldl_cons,List.foldl_nil,kA,tJ h]; omega
    · rw [qJ h]
      have:=ih (u / 10) (by omega)
      unfold gQ at this ⊢
      rw [List.foldl_append,this]
      simp only [List.foldl_cons,List.foldl_nil,kA,tJ (show u % 10 < 10 by omega)]; omega
theorem tK (u:Nat):decDigits u ≠ []:=by
  by_cases h:u < 10
  · rw [iY h]; simp
  · rw [qJ h]; simp
theorem uQ:∀ (k u:Nat),u < 10 ^ k→1≤k→(decDigits u).length≤k
  | 0,u,h,h1=>by omega
  | k + 1,u,h,_=>by
    by_cases h2:u < 10
    · rw [iY h2]; simp
    · rw [qJ h2,List.length_append,List.length_singleton]
      have h3:u / 10 < 10 ^ k:=by rw [Nat.pow_succ] at h; omega
      have:1≤k:=by
        rcases Nat.eq_zero_or_pos k with rfl | hk
        · omega
        · exact hk
      have:=uQ k (u / 10) h3 this
      omega
theorem Gl (n:Nat) (h:n≤9223372036854775807):strconv_Itoa (n:Int)=some (decDigits n):=by
  unfold strconv_Itoa
  rw [aN (by omega)]
  unfold Lib.itoa
  rw [if_neg (by omega),Int.toNat_natCast]
theorem JV (n:Nat) (h:n < 10):fG [IntKind.u8.wrap (wI ((48:Int) + (n:Int)))]=[dgB n]:=by
  have:n=0 ∨ n=1 ∨ n=2 ∨ n=3 ∨ n=4 ∨ n=5 ∨ n=6 ∨ n=7 ∨ n=8 ∨ n=9:=by omega
  rcases this with rfl | rfl | rfl | rfl | rfl | rfl | rfl | rfl | rfl | rfl <;> rfl
theorem CX:∀ (k u:Nat),u < 10 ^ k→u≤9223372036854775807→1≤k→k≤64→iK k (u:Int)=some (decDigits u)
  | 0,u,_,_,h,_=>by omega
  | k + 1,u,h,hu,_,hk=>by
    unfold iK
    simp only [aQ,aM,eW,bC]
    by_cases h2:u < 10
    · rw [if_pos (by omega),JV u h2,iY h2]
    · have h3:u / 10 < 10 ^ k:=by rw [Nat.pow_succ] at h; omega
      have h1k:1≤k:=by
        rcases Nat.eq_zero_or_pos k with rfl | hk
        · omega
        · exact hk
      have hd:Int.tdiv (u:Int) 10=((u / 10:Nat):Int):=by rw [Int.tdiv_eq_ediv_of_nonneg (by omega)]; omega
      have hm:Int.tmod (u:Int) 10=((u % 10:Nat):Int):=by rw [Int.tmod_eq_emod_of_nonneg (by omega)]; omega
      rw [if_neg (by omega),hd,hm,aR (by omega),CX k (u / 10) h3 (by omega) h1k (by omega),aC,JV _ (by omega)]
      have:=uQ k (u / 10) h3 h1k
      rw [aN (by simp; omega),qJ h2]
theorem kP (u:Nat) (h:u≤9223372036854775807):ref01_Digits (u:Int)=some (decDigits u) :=
  CX 64 u (Nat.lt_of_le_of_lt h (by decide)) h (by omega) (by omega)
def iE (r:Nat):Str:=if r=0 then [] else if r % 100=0 then [46,dgB (r / 100)] else if r % 10=0 then [46,dgB (r / 100),dgB (r / 10 % 10)] else [46,dgB (r / 100),dgB (r / 10 % 10),dgB (r % 10)]
def iT (u:Nat):Str:=decDigits (u / 1000) ++ iE (u % 1000)
def printN (v:Int):Str:=if m0 v then (if v < 0 then 45 :: iT v.natAbs else iT v.natAbs) else []
def uN (b:UInt8):Str→Str
  | s=>(s.reverse.dropWhile (· == b)).reverse
theorem KB (s:Str) (c:UInt8) (h:s.length≤1000000):gN s (c.toNat:Int)=some (uN c s):=by
  unfold gN
  refine cW (fun x:Str=>x.length≤1000000) List.length (uN c) ?_ h
  intro x hx
  simp only [aQ,aM]
  rcases List.eq_nil_or_concat x with rfl | ⟨y,d,rfl⟩
  · left; rfl
  · simp only [List.concat_eq_append,List.length_append,List.length_singleton] at hx ⊢
    have hd:(y ++ [d])[((y.length + 1:Nat):Int).toNat - 1]?=some d:=by simp
    rw [if_pos (by omega),aR (by omega),show ((y.length + 1:Nat):Int) - 1=(y.length:Int) by omega,a7 (x:=d) (by simp)]
    by_cases he:d=c
    · right
      rw [if_pos (by rw [he]),aN (by omega)]
      refine ⟨y,by simp,by omega,by omega,?_⟩
      unfold uN; simp [he]
    · left
      rw [if_neg (fun h=>he (UInt8.toNat_inj.1 (by omega)))]
      unfold uN; simp [he]
theorem JW (s:Str) (h:s.length≤1000000):fP s [48]=some (uN 48 s):=by
  unfold fP
  simp only [aQ,fK,aM,← Bool.decide_or]
  by_cases hs:s=[]
  · subst hs; rw [if_pos (by simp)]; rfl
  · rw [if_neg (by simp [hs]),if_pos (by simp),cU (x:=48) (by omega) (by rfl),if_pos (by decide)]
    rw [KB s 48 h]; rfl
end Go.Proofs.YtgkmbhllcekagaaGreatDoor.AM
/- Numbers, printed: the same. -/
namespace Go.Proofs.YtgkmbhllcekagaaGreatDoor.AM
open Go
open Go.Lib (decDigits)
theorem D2 {n:Nat} (h:n < 10):dgB n=48 ↔ n=0:=by
  constructor
  · intro e
    have:=congrArg UInt8.toNat e
    rw [tJ h] at this
    have h48:(48:UInt8).toNat=48:=rfl
    omega
  · rintro rfl; rfl
theorem Oq {r:Nat} (h:r < 1000):decDigits (1000 + r)=[49,dgB (r / 100),dgB (r / 10 % 10),dgB (r % 10)]:=by
  rw [qJ (by omega),qJ (by omega),qJ (by omega),iY (by omega)]
  simp only [List.cons_append,List.nil_append]
  rw [show (1000 + r) / 10 / 10 / 10=1 by omega,show (1000 + r) / 10 / 10 % 10=r / 100 by omega,show (1000 + r) / 10 % 10=r / 10 % 10 by omega,show (1000 + r) % 10=r % 10 by omega]
  rfl
theorem Mx {r:Nat} (h:r < 1000) (h0:r ≠ 0):46 :: uN 48 [dgB (r / 100),dgB (r / 10 % 10),dgB (r % 10)]=iE r:=by
  unfold uN iE
  rw [if_neg h0]
  have e1:=D2 (show r / 100 < 10 by omega)
  have e2:=D2 (show r / 10 % 10 < 10 by omega)
  have e3:=D2 (show r % 10 < 10 by omega)
  by_cases h1:r % 10=0
  · by_cases h2:r / 10 % 10=0
    · rw [if_pos (by omega)]
      have h3:¬ dgB (r / 100)=48:=fun h=>by have:=e1.1 h; omega
      simp [e3.2 h1,e2.2 h2,h3]
    · rw [if_neg (by omega),if_pos h1]
      have h3:¬ dgB (r / 10 % 10)=48:=fun h=>h2 (e2.1 h)
      simp [e3.2 h1,h3]
  · rw [if_neg (by omega),if_neg h1]
    have h3:¬ dgB (r % 10)=48:=fun h=>h1 (e3.1 h)
    simp [h3]
theorem NJ (b:UInt8) (s:Str):(uN b s).length≤s.length:=by
  unfold uN
  rw [List.length_reverse]
  have:=(List.dropWhile_sublist (fun x=>x == b) (l:=s.reverse)).length_le
  rw [List.length_reverse] at this; exact this
theorem Pb (r:Nat):(iE r).length≤4:=by
  unfold iE; repeat' split
  all_goals simp
theorem Ew {u:Nat} (h:u≤9007199254740992):(iT u).length≤30:=by
  unfold iT
  have:=uQ 20 (u / 1000) (Nat.lt_of_le_of_lt (show u / 1000≤9007199254740992 by omega) (by decide)) (by omega)
  have:=Pb (u % 1000)
  rw [List.length_append]; omega
theorem CH (u k:Nat):Int.tdiv (u:Int) (k:Int)=((u / k:Nat):Int):=by
  rw [Int.tdiv_eq_ediv_of_nonneg (by omega)]; simp
theorem AO (u k:Nat):Int.tmod (u:Int) (k:Int)=((u % k:Nat):Int):=by
  rw [Int.tmod_eq_emod_of_nonneg (by omega)]; simp
theorem JB (v:Int):tI v=some (printN v):=by
  unfold tI printN
  simp only [aQ,xT,aC,bE,aM]
  cases hn:m0 v
  · rfl
  have hv:=lX.1 hn
  simp only [aV,if_true]
  have body:∀ (pre:Str) (u:Nat),pre.length≤1→u≤9007199254740992 →
      (aI vS (fun x6=>[]) (strconv_Itoa (wI (Int.tdiv (u:Int) 1000))) fun x6=>
        gdM (pre.length + x6.length≤9223372036854775807) (if Int.tmod (u:Int) 1000=0 then aH (pre ++ x6) else
          aI vS (fun x12=>[]) (strconv_Itoa (wI (1000 + Int.tmod (u:Int) 1000))) fun x12=>gdM (0≤(1:Int)∧(1:Int)≤(x12.length:Int)∧(x12.length:Int)≤(x12.length:Int))
            (gdM ((pre ++ x6).length + ([46]:Str).length≤9223372036854775807) (aI vS (fun x15=>[]) (fP ((x12.take (x12.length:Int).toNat).drop (1:Int).toNat) [48]) fun x15=>
              gdM ((pre ++ x6 ++ [46]).length + x15.length≤9223372036854775807) (aH (pre ++ x6 ++ [46] ++ x15))))))=some (pre ++ iT u):=by
    intro pre u hp hu
    have h1:=CH u 1000
    have h2:=AO u 1000
    simp only [Int.cast_ofNat_Int] at h1 h2
    have hl:=uQ 20 (u / 1000) (Nat.lt_of_le_of_lt (show u / 1000≤9007199254740992 by omega) (by decide)) (by omega)
    rw [h1,h2,aR (by omega),Gl _ (by omega),aC,aN (by omega)]
    unfold iT
    by_cases hr:u % 1000=0
    · rw [if_pos (by omega),hr]; simp [iE]
    · rw [if_neg (by omega),aR (by omega),show (1000:Int) + ((u % 1000:Nat):Int)=((1000 + u % 1000:Nat):Int) by omega,Gl _ (by omega),aC,Oq (by omega)]
      rw [aN (by simp),aN (by simp only [List.length_append,List.length_singleton]; omega)]
      rw [show ((([49,dgB (u % 1000 / 100),dgB (u % 1000 / 10 % 10),dgB (u % 1000 % 10)]:Str).take ((([49,dgB (u % 1000 / 100),dgB (u % 1000 / 10 % 10),dgB (u % 1000 % 10)]:Str).length:Nat):Int).toNat).drop (1:Int).toNat)=[dgB (u % 1000 / 100),dgB (u % 1000 / 10 % 10),dgB (u % 1000 % 10)] from rfl]
      have ht:=NJ 48 [dgB (u % 1000 / 100),dgB (u % 1000 / 10 % 10),dgB (u % 1000 % 10)]
      rw [JW _ (by simp),aC,aN (by simp only [List.length_append,List.length_singleton,List.length_cons,List.length_nil] at ht ⊢; omega)]
      rw [← Mx (show u % 1000 < 1000 by omega) hr]
      simp
  by_cases hneg:v < 0
  · rw [if_pos hneg,if_pos hneg,aR (x:=0 - v) (by omega),show 0 - v=(v.natAbs:Int) by omega]
    exact body [45] v.natAbs (by simp) (by omega)
  · rw [if_neg hneg,if_neg hneg]
    have:=body [] v.natAbs (by simp) (by omega)
    rw [show (v.natAbs:Int)=v by omega] at this
    exact this
theorem GW (k u:Nat) (hu:u≤9007199254740992):gC (k + 1) (u:Int)=some (iT u):=by
  unfold gC
  have hn:m0 (u:Int)=true:=lX.2 (by omega)
  simp only [aQ,pR,aC,bE,aM,hn,aV]
  have h1:=CH u 1000
  have h2:=AO u 1000
  have h3:=CH (u % 1000) 100
  have h4:=AO (u % 1000) 100
  have h5:=CH (u % 1000) 10
  have h6:=AO (u % 1000 / 10) 10
  have h7:=AO (u % 1000) 10
  simp only [Int.cast_ofNat_Int] at h1 h2 h3 h4 h5 h6 h7
  have hl:=uQ 20 (u / 1000) (Nat.lt_of_le_of_lt (show u / 1000≤9007199254740992 by omega) (by decide)) (by omega)
  rw [if_neg (by omega),h1,h2,aR (by omega),kP _ (by omega),aC,h3,h4,h5,h7]
  unfold iT iE
  by_cases hr:u % 1000=0
  · rw [if_pos (by omega),if_pos hr]; simp
  rw [if_neg (by omega),if_neg hr,aN (by simp; omega),aR (by omega),kP _ (by omega),aC,iY (show u % 1000 / 100 < 10 by omega),aN (by simp; omega)]
  by_cases h8:u % 1000 % 100=0
  · rw [if_pos (by omega),if_pos (by omega),if_pos h8]; simp
  rw [if_neg (by omega),if_neg h8,aR (by omega),h6,kP _ (by omega),aC,iY (show u % 1000 / 10 % 10 < 10 by omega),aN (by simp; omega)]
  by_cases h9:u % 1000 % 10=0
  · rw [if_pos (by omega),if_pos h9]; simp
  rw [if_neg (by omega),if_neg h9,kP _ (by omega),aC,iY (show u % 1000 % 10 < 10 by omega),aN (by simp; omega)]
  simp
theorem FD (v:Int):ref01_Print v=some (printN v):=by
  unfold ref01_Print printN
  cases hn:m0 v
  · unfold gC
    simp only [pR,aC,hn]; rfl
  have hv:=lX.1 hn
  simp only [if_true]
  by_cases hneg:v < 0
  · rw [if_pos hneg]
    unfold gC
    simp only [aQ,pR,aC,bE,aM,hn,aV]
    rw [if_pos hneg,aR (x:=0 - v) (by omega),show 0 - v=(v.natAbs:Int) by omega,GW 62 _ (by omega),aC]
    have:=Ew (show v.natAbs≤9007199254740992 by omega)
    rw [aN (by simp; omega)]; rfl
  · rw [if_neg hneg]
    have:=GW 63 v.natAbs (by omega)
    rw [show (v.natAbs:Int)=v by omega] at this
    exact this
end Go.Proofs.YtgkmbhllcekagaaGreatDoor.AM
/- Numbers: what is printed is parsed. -/
namespace Go.Proofs.YtgkmbhllcekagaaGreatDoor.AM
open Go
open Go.Lib (decDigits)
theorem DA:∀ (l r:Str),(∀ c ∈ l,isD c=true)→(∀ c r',r=c :: r'→isD c=false)→(l ++ r).takeWhile isD=l∧(l ++ r).dropWhile isD=r
  | [],r,_,hr=>by
    rcases r with _ | ⟨c,r⟩
    · exact ⟨rfl,rfl⟩
    · have:=hr c r rfl
      simp [List.takeWhile_cons,List.dropWhile_cons,this]
  | c :: l,r,hl,hr=>by
    obtain ⟨h1,h2⟩:=DA l r (fun d hd=>hl d (by simp [hd])) hr
    have:=hl c (by simp)
    simp [List.takeWhile_cons,List.dropWhile_cons,this,h1,h2]
theorem uS (l:Str) {d:Nat} (h:d < 10):gQ (l ++ [dgB d])=gQ l * 10 + d:=by
  unfold gQ
  rw [List.foldl_append]
  simp only [List.foldl_cons,List.foldl_nil,kA,tJ h]; omega
theorem Nd (r:Nat):∀ c r',iE r=c :: r'→isD c=false:=by
  intro c r' h
  unfold iE at h
  split at h
  · cases h
  · split at h
    · cases h; decide
    · split at h
      · cases h; decide
      · cases h; decide
theorem CT (u:Nat):∃ c t,iT u=c :: t∧isD c=true:=by
  unfold iT
  rcases hd:decDigits (u / 1000) with _ | ⟨c,t⟩
  · exact absurd hd (tK _)
  · exact ⟨c,t ++ iE (u % 1000),rfl,uR (u / 1000) c (by rw [hd]; simp)⟩
theorem L8 {c:UInt8}{t:Str} (h:isD c=true):fY (c :: t)=(c :: t,false):=by
  unfold fY
  split
  · rename_i h1; cases h1
    have:isD 45=false:=by decide
    rw [this] at h; cases h
  · rfl
theorem C9 (below:Bool) (u:Nat):Ip below (iT u)=pX below u:=by
  unfold Ip iT
  obtain ⟨h1,h2⟩:=DA (decDigits (u / 1000)) (iE (u % 1000)) (uR _) (Nd _)
  rw [h1,h2]
  by_cases hr:u % 1000=0
  · rw [show iE (u % 1000)=[] from by unfold iE; rw [if_pos hr]]
    dsimp only
    rw [if_neg (tK _),yX]
    congr 1; omega
  have d1:=oG (show u % 1000 / 100 < 10 by omega)
  have d2:=oG (show u % 1000 / 10 % 10 < 10 by omega)
  have d4:=oG (show u % 10 < 10 by omega)
  have d3:=oG (show u % 1000 % 10 < 10 by omega)
  by_cases h3:u % 1000 % 100=0
  · rw [show iE (u % 1000)=[46,dgB (u % 1000 / 100)] from by unfold iE; rw [if_neg hr,if_pos h3]]
    dsimp only
    rw [if_pos ⟨rfl,tK _,by simp [List.dropWhile_cons,d1],by simp,by simp⟩,uS _ (by omega),yX]
    congr 1
    simp only [List.length_cons,List.length_nil]
    omega
  by_cases h4:u % 1000 % 10=0
  · rw [show iE (u % 1000)=[46,dgB (u % 1000 / 100),dgB (u % 1000 / 10 % 10)] from by unfold iE; rw [if_neg hr,if_neg h3,if_pos h4]]
    dsimp only
    rw [if_pos ⟨rfl,tK _,by simp [List.dropWhile_cons,d1,d2],by simp,by simp⟩,show decDigits (u / 1000) ++ [dgB (u % 1000 / 100),dgB (u % 1000 / 10 % 10)]=(decDigits (u / 1000) ++ [dgB (u % 1000 / 100)]) ++ [dgB (u % 1000 / 10 % 10)] from by simp,uS _ (by omega),uS _ (by omega),yX]
    congr 1
    simp only [List.length_cons,List.length_nil]
    omega
  · rw [show iE (u % 1000)=[46,dgB (u % 1000 / 100),dgB (u % 1000 / 10 % 10),dgB (u % 1000 % 10)] from by unfold iE; rw [if_neg hr,if_neg h3,if_neg h4]]
    dsimp only
    rw [if_pos ⟨rfl,tK _,by simp [List.dropWhile_cons,d1,d2,d3,d4],by simp,by simp⟩,show decDigits (u / 1000) ++ [dgB (u % 1000 / 100),dgB (u % 1000 / 10 % 10),dgB (u % 1000 % 10)]=(decDigits (u / 1000) ++ [dgB (u % 1000 / 100)] ++ [dgB (u % 1000 / 10 % 10)]) ++ [dgB (u % 1000 % 10)] from by simp,uS _ (by omega),uS _ (by omega),uS _ (by omega),yX]
    congr 1
    simp only [List.length_cons,List.length_nil]
    omega
theorem OH {v:Int} (h:m0 v=true):m4 (printN v)=(v,0):=by
  have hv:=lX.1 h
  unfold printN
  rw [if_pos h,M0]
  by_cases hn:v < 0
  · rw [if_pos hn]
    show Ip true (iT v.natAbs)=_
    rw [C9]
    unfold pX
    rw [if_pos (by omega),if_pos rfl,show -(v.natAbs:Int)=v by omega]
  · rw [if_neg hn]
    obtain ⟨c,t,e,hc⟩:=CT v.natAbs
    have e2:fY (iT v.natAbs)=(iT v.natAbs,false):=by rw [e]; exact L8 hc
    rw [e2,C9]
    unfold pX
    rw [if_pos (by omega),show (v.natAbs:Int)=v by omega]; rfl
end Go.Proofs.YtgkmbhllcekagaaGreatDoor.AM
/- Durations, printed. -/
namespace Go.Proofs.YtgkmbhllcekagaaGreatDoor.AM
open Go
open Go.Lib (decDigits)
def dH:List (Str × Nat):=[([100],86400000),([104],3600000),([109],60000),([115],1000),([109,115],1)]
def DF:List gS:=[⟨[100],86400000⟩,⟨[104],3600000⟩,⟨[109],60000⟩,⟨[115],1000⟩,⟨[109,115],1⟩]
theorem DZ:mY=some DF:=rfl
theorem Fz:∀ (i:Nat),i < 5→∃ (n:Str) (k:Nat),gl1[i]?=some ⟨n,(k:Int)⟩∧DF[i]?=some ⟨n,(k:Int)⟩∧dH.drop i=(n,k) :: dH.drop (i + 1)∧(1≤k∧k≤86400000)∧1≤n.length∧n.length≤2
  | 0,_=>⟨_,86400000,rfl,rfl,rfl,by omega,by decide,by decide⟩
  | 1,_=>⟨_,3600000,rfl,rfl,rfl,by omega,by decide,by decide⟩
  | 2,_=>⟨_,60000,rfl,rfl,rfl,by omega,by decide,by decide⟩
  | 3,_=>⟨_,1000,rfl,rfl,rfl,by omega,by decide,by decide⟩
  | 4,_=>⟨_,1,rfl,rfl,rfl,by omega,by decide,by decide⟩
  | n + 5,h=>by omega
def eB:List (Str × Nat)→Nat→Str
  | [],_=>[]
  | (n,k) :: l,d=>(if 0 < d / k then decDigits (d / k) ++ n else []) ++ eB l (d % k)
def printD (d:Int):Str:=if tmB d then (if d=0 then [48,115] else eB dH d.toNat) else []
theorem NH {n:Nat} (h:n≤9223372036854775807):wI (n:Int)=n:=aR (by omega)
theorem Cc {u:Nat} (h:u≤9007199254740992):(decDigits u).length≤20:=uQ 20 u (Nat.lt_of_le_of_lt h (by decide)) (by omega)
theorem JO (v:Int):nM v=some (printD v):=by
  unfold nM printD
  simp only [aQ,xP,aC,bE,aM,eW]
  cases hn:tmB v
  · rfl
  have hv:=oD.1 hn
  simp only [aV,if_true]
  by_cases h0:v=0
  · rw [if_pos h0,if_pos h0]; rfl
  rw [if_neg h0,if_neg h0]
  refine (cW (fun x:Int × Int × Str=>(0≤x.1∧x.1≤9007199254740992)∧(0≤x.2.1∧x.2.1≤5)∧(x.2.2.length:Int)≤22 * x.2.1) (fun x=>6 - x.2.1.toNat) (fun x=>x.2.2 ++ eB (dH.drop x.2.1.toNat) x.1.toNat) ?_ (by simp only [List.length_nil]; omega)).trans (by simp)
  rintro ⟨d,i,t⟩ ⟨hd,hi,ht⟩
  simp only at hd hi ht ⊢
  obtain ⟨i,rfl⟩:=Int.eq_ofNat_of_zero_le hi.1
  obtain ⟨d,rfl⟩:=Int.eq_ofNat_of_zero_le hd.1
  by_cases h5:i < 5
  · right
    obtain ⟨n,k,e1,_,e2,hk,hn1,hn2⟩:=Fz i h5
    have hq:d / k≤9007199254740992:=Nat.le_trans (Nat.div_le_self d k) (by omega)
    have hm:d % k≤9007199254740992:=Nat.le_trans (Nat.mod_le d k) (by omega)
    rw [if_pos (by omega),a7 e1]
    simp only [Int.toNat_natCast]
    rw [aN (by omega),CH,AO,NH (Nat.le_trans hq (by decide)),e2]
    simp only [eB]
    by_cases hp:0 < d / k
    · have hl:=Cc hq
      rw [if_pos (by omega),if_pos hp,Gl _ (by omega),aC,aN (by omega),aN (by rw [List.length_append]; omega),aN (by omega),aR (by omega)]
      exact ⟨(((d % k:Nat):Int),((i + 1:Nat):Int),t ++ (decDigits (d / k) ++ n)),by simp,⟨by simp only; omega,by simp only; omega,by simp only [List.length_append]; omega⟩,by simp only; omega,by simp only [Int.toNat_natCast,List.append_assoc,List.nil_append]⟩
    · rw [if_neg (by omega),if_neg hp,aN (by omega),aR (by omega)]
      exact ⟨(((d % k:Nat):Int),((i + 1:Nat):Int),t),by simp,⟨by simp only; omega,by simp only; omega,by simp only; omega⟩,by simp only; omega,by simp only [Int.toNat_natCast,List.append_assoc,List.nil_append]⟩
  · left
    rw [if_neg (by omega),show i=5 by omega]
    simp [dH,eB]
theorem Gv (v:Int):lE v=some (printD v):=by
  unfold lE printD
  rw [DZ]
  simp only [aQ,Bd,aC,bE,aM,eW]
  cases hn:tmB v
  · rfl
  have hv:=oD.1 hn
  simp only [aV,if_true]
  by_cases h0:v=0
  · rw [if_pos h0,if_pos h0]; rfl
  rw [if_neg h0,if_neg h0]
  refine (cW (fun x:Int × Str × Int=>(0≤x.1∧x.1≤9007199254740992)∧(0≤x.2.2∧x.2.2≤5)∧(x.2.1.length:Int)≤22 * x.2.2) (fun x=>6 - x.2.2.toNat) (fun x=>x.2.1 ++ eB (dH.drop x.2.2.toNat) x.1.toNat) ?_ (by simp only [List.length_nil]; omega)).trans (by simp)
  rintro ⟨d,t,i⟩ ⟨hd,hi,ht⟩
  simp only at hd hi ht ⊢
  obtain ⟨i,rfl⟩:=Int.eq_ofNat_of_zero_le hi.1
  obtain ⟨d,rfl⟩:=Int.eq_ofNat_of_zero_le hd.1
  have h5l:(DF.length:Int)=5:=rfl
  by_cases h5:i < 5
  · right
    obtain ⟨n,k,_,e1,e2,hk,hn1,hn2⟩:=Fz i h5
    have hq:d / k≤9007199254740992:=Nat.le_trans (Nat.div_le_self d k) (by omega)
    have hm:d % k≤9007199254740992:=Nat.le_trans (Nat.mod_le d k) (by omega)
    rw [if_pos (by omega),a7 e1]
    simp only [Int.toNat_natCast]
    rw [CH,AO,NH (Nat.le_trans hq (by decide)),e2]
    simp only [eB]
    by_cases hp:0 < d / k
    · have hl:=Cc hq
      have hkd:k≤d:=by
        rcases Nat.lt_or_ge d k with h | h
        · rw [Nat.div_eq_of_lt h] at hp; omega
        · exact h
      rw [if_pos (by omega),if_pos hp,aN (by omega),kP _ (by omega),aC,aN (by omega),aN (by rw [List.length_append]; omega),aN (by omega),aR (by omega)]
      exact ⟨(((d % k:Nat):Int),t ++ decDigits (d / k) ++ n,((i + 1:Nat):Int)),by simp,⟨by simp only; omega,by simp only; omega,by simp only [List.length_append]; omega⟩,by simp only; omega,by simp only [Int.toNat_natCast,List.append_assoc,List.nil_append]⟩
    · have hkd:¬ k≤d:=fun h=>hp (Nat.div_pos h (by omega))
      rw [if_neg (by omega),if_neg hp,aN (by omega),aR (by omega)]
      exact ⟨(((d % k:Nat):Int),t,((i + 1:Nat):Int)),by simp,⟨by simp only; omega,by simp only; omega,by simp only; omega⟩,by simp only; omega,by simp only [Int.toNat_natCast,List.append_assoc,List.nil_append]⟩
  · left
    rw [if_neg (by omega),show i=5 by omega]
    simp [dH,eB]
end Go.Proofs.YtgkmbhllcekagaaGreatDoor.AM
/- Durations, read by parts: told by their digits. -/
namespace Go.Proofs.YtgkmbhllcekagaaGreatDoor.AM
open Go
open Go.Lib (decDigits)
def dL:Str→Option (Nat × Nat × Nat)
  | 100 :: _=>some (0,1,86400000)
  | 104 :: _=>some (1,1,3600000)
  | 109 :: 115 :: _=>some (4,2,1)
  | 109 :: _=>some (2,1,60000)
  | 115 :: _=>some (3,1,1000)
  | _=>none
def mL (x:Int):Int × Int:=if x≤9007199254740992 then (x,0) else (0,2)
def nG:Nat→Str→Nat→Int→Int × Int
  | _,[],_,sum=>mL sum
  | 0,_ :: _,_,_=>(0,1)
  | f + 1,c :: s,fr,sum=>
    if (c :: s).takeWhile isD=[] then (0,1) else
    match dL ((c :: s).dropWhile isD) with
    | none=>(0,1)
    | some (k,n,z)=>if fr≤k then nG f (((c :: s).dropWhile isD).drop n) (k + 1) (sum + gQ ((c :: s).takeWhile isD) * z) else (0,1)
def mG (s:Str):Int × Int:=if s=[] then (0,1) else nG s.length s 0 0
theorem sG (f fr:Nat) (sum:Int):nG f [] fr sum=mL sum:=by cases f <;> rfl
theorem mV {s:Str}{k n z:Nat} (h:dL s=some (k,n,z)):k < 5∧1≤n∧n≤s.length∧1≤z∧z≤86400000:=by
  unfold dL at h
  split at h <;> first | (cases h; done) | (simp only [Option.some.injEq,Prod.mk.injEq] at h; obtain ⟨rfl,rfl,rfl⟩:=h; simp)
theorem xK {s:Str}{k n z:Nat} (h:dL (s.dropWhile isD)=some (k,n,z)) (h2:s.takeWhile isD ≠ []):((s.dropWhile isD).drop n).length + 2≤s.length:=by
  have e:=congrArg List.length (List.takeWhile_append_dropWhile (p:=isD) (l:=s))
  have:=mV h
  have:=List.length_pos_iff.2 h2
  rw [List.length_append] at e
  rw [List.length_drop]; omega
theorem Hk:∀ (f g:Nat) (s:Str) (fr:Nat) (sum:Int),s.length≤f→s.length≤g→nG f s fr sum=nG g s fr sum
  | f,g,[],fr,sum,_,_=>by rw [sG,sG]
  | 0,g,c :: s,fr,sum,h,_=>by simp at h
  | f + 1,0,c :: s,fr,sum,_,h=>by simp at h
  | f + 1,g + 1,c :: s,fr,sum,h1,h2=>by
    unfold nG
    split
    · rfl
    · rename_i hne
      split
      · rfl
      · rename_i k n z hu
        split
        · have:=xK hu hne
          simp only [List.length_cons] at this h1 h2
          exact Hk f g _ _ _ (by omega) (by omega)
        · rfl
def r7 (s:Str) (fr:Nat) (sum:Int):Int × Int:=nG s.length s fr sum
theorem AH (fr:Nat) (sum:Int):r7 [] fr sum=mL sum:=rfl
theorem Cz {s:Str} (hs:s ≠ []) (fr:Nat) (sum:Int):r7 s fr sum=if s.takeWhile isD=[] then (0,1) else
    match dL (s.dropWhile isD) with
    | none=>(0,1)
    | some (k,n,z)=>if fr≤k then r7 ((s.dropWhile isD).drop n) (k + 1) (sum + gQ (s.takeWhile isD) * z) else (0,1):=by
  rcases s with _ | ⟨c,s⟩
  · exact absurd rfl hs
  unfold r7
  rw [List.length_cons]
  conv=>lhs; unfold nG
  by_cases h1:(c :: s).takeWhile isD=[]
  · rw [if_pos h1,if_pos h1]
  · rw [if_neg h1,if_neg h1]
    rcases hu:dL ((c :: s).dropWhile isD) with _ | ⟨k,n,z⟩
    · rfl
    · simp only
      by_cases h2:fr≤k
      · rw [if_pos h2,if_pos h2]
        have:=xK hu h1
        simp only [List.length_cons] at this
        exact Hk _ _ _ _ _ (by omega) (by omega)
      · rw [if_neg h2,if_neg h2]
theorem F0 (s:Str):mG s=if s=[] then (0,1) else r7 s 0 0:=rfl
theorem NY (x:Int) (h:0≤x):tmB (mL x).1=true:=by
  unfold mL; split
  · exact oD.2 ⟨h,by assumption⟩
  · rfl
theorem K3:∀ (f:Nat) (s:Str) (fr:Nat) (sum:Int),0≤sum→tmB (nG f s fr sum).1=true
  | f,[],fr,sum,h=>by rw [sG]; exact NY sum h
  | 0,c :: s,fr,sum,_=>rfl
  | f + 1,c :: s,fr,sum,h=>by
    unfold nG
    split
    · rfl
    · split
      · rfl
      · split
        · refine K3 f _ _ _ ?_
          have:=iO ((c :: s).takeWhile isD) (jD _) (Int.le_refl 0)
          rename_i z _ _
          have:=Int.mul_nonneg this (show (0:Int)≤z by omega)
          unfold gQ; omega
        · rfl
theorem Qv (s:Str):tmB (mG s).1=true:=by
  unfold mG; split
  · rfl
  · exact K3 _ _ _ _ (Int.le_refl 0)
def NoS (r:Str):Prop:=∀ c r',r=c :: r'→c ≠ 115
theorem I1 {i:Nat}{n:Str}{k:Nat} (h:dH[i]?=some (n,k)) {r:Str} (hr:NoS r):dL (n ++ r)=some (i,n.length,k):=by
  have:i < 5:=(List.getElem?_eq_some_iff.1 h).1
  have:i=0 ∨ i=1 ∨ i=2 ∨ i=3 ∨ i=4:=by omega
  rcases this with rfl | rfl | rfl | rfl | rfl <;> simp only [dH,List.getElem?_cons_zero,List.getElem?_cons_succ,Option.some.injEq,Prod.mk.injEq] at h <;> obtain ⟨rfl,rfl⟩:=h
  · rfl
  · rfl
  · rcases r with _ | ⟨c,r⟩
    · rfl
    · have:=hr c r rfl
      show dL (109 :: c :: r)=_
      unfold dL
      split
      · rename_i h; cases h
      · rename_i h; cases h
      · rename_i h; cases h; exact absurd rfl this
      · rfl
      · rename_i h; cases h
      · rename_i h1 h2 h3 h4 h5; exact absurd rfl (h4 _)
  · rfl
  · rfl
theorem JR (u:Nat):∃ c t,decDigits u=c :: t∧isD c=true:=by
  rcases hd:decDigits u with _ | ⟨c,t⟩
  · exact absurd hd (tK _)
  · exact ⟨c,t,rfl,uR u c (by rw [hd]; simp)⟩
theorem vF:∀ (l:List (Str × Nat)) (d:Nat),∀ c r',eB l d=c :: r'→isD c=true
  | [],d,c,r',h=>by cases h
  | (n,k) :: l,d,c,r',h=>by
    unfold eB at h
    by_cases hp:0 < d / k
    · rw [if_pos hp] at h
      obtain ⟨c2,t,e,hc⟩:=JR (d / k)
      rw [e] at h
      cases h; exact hc
    · rw [if_neg hp] at h
      exact vF l _ c r' h
theorem Ng {i:Nat}{n:Str}{k:Nat} (h:dH[i]?=some (n,k)) (r:Str):∀ c r',n ++ r=c :: r'→isD c=false:=by
  have:i < 5:=(List.getElem?_eq_some_iff.1 h).1
  have:i=0 ∨ i=1 ∨ i=2 ∨ i=3 ∨ i=4:=by omega
  rcases this with rfl | rfl | rfl | rfl | rfl <;> simp only [dH,List.getElem?_cons_zero,List.getElem?_cons_succ,Option.some.injEq,Prod.mk.injEq] at h <;> obtain ⟨rfl,rfl⟩:=h <;> (intro c r' h; cases h; decide)
theorem wR (i:Nat) (h:i < 5):∃ n k,dH[i]?=some (n,k)∧dH.drop i=(n,k) :: dH.drop (i + 1)∧1≤k∧(i=4→k=1):=by
  have:i=0 ∨ i=1 ∨ i=2 ∨ i=3 ∨ i=4:=by omega
  rcases this with rfl | rfl | rfl | rfl | rfl
  · exact ⟨_,_,rfl,rfl,by decide,by decide⟩
  · exact ⟨_,_,rfl,rfl,by decide,by decide⟩
  · exact ⟨_,_,rfl,rfl,by decide,by decide⟩
  · exact ⟨_,_,rfl,rfl,by decide,by decide⟩
  · exact ⟨_,_,rfl,rfl,by decide,by decide⟩
theorem tU:∀ (j i d fr:Nat) (sum:Int),i + j=5→fr≤i→(i=5→d=0)→r7 (eB (dH.drop i) d) fr sum=mL (sum + d)
  | 0,i,d,fr,sum,hi,_,h5=>by
    have:i=5:=by omega
    subst this
    rw [h5 rfl]
    show r7 [] fr sum=_
    rw [AH]; simp
  | j + 1,i,d,fr,sum,hi,hf,_=>by
    obtain ⟨n,k,hu,hd,hk,hk4⟩:=wR i (by omega)
    rw [hd]
    unfold eB
    have hlast:i + 1=5→d % k=0:=fun h=>by rw [hk4 (by omega)]; exact Nat.mod_one d
    by_cases hp:0 < d / k
    · rw [if_pos hp]
      have hno:NoS (eB (dH.drop (i + 1)) (d % k)):=fun c r' e hc=>by
        have:=vF _ _ c r' e
        rw [hc] at this; revert this; decide
      obtain ⟨c,t,e,hc⟩:=JR (d / k)
      rw [List.append_assoc,Cz (by rw [e]; simp)]
      obtain ⟨s1,s2⟩:=DA (decDigits (d / k)) (n ++ eB (dH.drop (i + 1)) (d % k)) (uR _) (Ng hu _)
      rw [s1,s2,if_neg (tK _),I1 hu hno]
      simp only
      rw [if_pos hf,List.drop_left,yX,tU j (i + 1) (d % k) (i + 1) _ (by omega) (by omega) hlast]
      congr 1
      have:=Nat.div_add_mod d k
      have e2:((d:Nat):Int)=((k * (d / k) + d % k:Nat):Int):=by rw [this]
      rw [e2]
      have e3:((k * (d / k) + d % k:Nat):Int)=(k:Int) * ((d / k:Nat):Int) + ((d % k:Nat):Int):=by simp
      rw [e3,Int.mul_comm (k:Int),Int.add_assoc]
    · rw [if_neg hp,List.nil_append,tU j (i + 1) (d % k) fr sum (by omega) (by omega) hlast]
      have:d / k=0:=Nat.le_zero.1 (Nat.not_lt.1 hp)
      have h2:=Nat.div_add_mod d k
      rw [this,Nat.mul_zero,Nat.zero_add] at h2
      rw [h2]
theorem OA {v:Int} (h:tmB v=true):mG (printD v)=(v,0):=by
  have hv:=oD.1 h
  unfold printD
  rw [if_pos h]
  by_cases h0:v=0
  · rw [if_pos h0,h0]; rfl
  · rw [if_neg h0]
    have:=tU 5 0 v.toNat 0 0 rfl (by omega) (by omega)
    rw [List.drop_zero] at this
    rw [F0]
    split
    · rename_i e
      rw [e] at this
      rw [AH] at this
      exfalso
      unfold mL at this
      rw [if_pos (by omega),if_pos (by omega)] at this
      have:=congrArg Prod.fst this
      simp only at this; omega
    · rw [this]
      unfold mL
      rw [if_pos (by omega)]
      congr 1; omega
end Go.Proofs.YtgkmbhllcekagaaGreatDoor.AM
/- Durations, parsed: the program's and the document's are the same. -/
namespace Go.Proofs.YtgkmbhllcekagaaGreatDoor.AM
open Go
theorem H4 (s:Str) (h:s.length≤1000000):tC s=some (min (gQ (s.takeWhile isD)) 9007199254740993,((s.takeWhile isD).length:Int)):=by
  unfold tC
  simp only [aQ]
  refine (cW (fun x:Int × Int=>(0≤x.1∧x.1≤9007199254740993)∧(0≤x.2∧x.2≤s.length)) (fun x=>s.length + 1 - x.2.toNat) (fun x=>(((s.drop x.2.toNat).takeWhile isD).foldl (kB 9007199254740993) x.1,x.2 + (((s.drop x.2.toNat).takeWhile isD).length:Int))) ?_ (by simp)).trans ?_
  · rintro ⟨v,i⟩ ⟨hv,hi⟩
    simp only at hv hi ⊢
    obtain ⟨n,rfl⟩:=Int.eq_ofNat_of_zero_le hi.1
    simp only [aM,Int.toNat_natCast]
    by_cases hl:n < s.length
    · rw [if_pos (by omega),a7 (bQ hl),eF hl,List.takeWhile_cons]
      by_cases h1:48≤(nth s n).toNat
      · rw [if_pos (by omega)]
        by_cases h2:(nth s n).toNat≤57
        · right
          rw [if_pos (by omega),if_pos (jR.2 ⟨h1,h2⟩)]
          rw [aR (show -9223372036854775808≤v * 10∧_ by omega)]
          have hu:IntKind.u8.wrap (((nth s n).toNat:Int) - 48)=((nth s n).toNat:Int) - 48:=by
            have:∃ k:Nat,k < 10∧(((nth s n).toNat:Int) - 48)=(k:Int):=⟨(nth s n).toNat - 48,by omega,by omega⟩
            obtain ⟨k,hk,e⟩:=this
            rw [e]
            have:k=0 ∨ k=1 ∨ k=2 ∨ k=3 ∨ k=4 ∨ k=5 ∨ k=6 ∨ k=7 ∨ k=8 ∨ k=9:=by omega
            rcases this with rfl | rfl | rfl | rfl | rfl | rfl | rfl | rfl | rfl | rfl <;> decide
          rw [hu,aR (show -9223372036854775808≤((nth s n).toNat:Int) - 48∧_ by omega),aR (by omega),aR (by omega)]
          refine ⟨(kB 9007199254740993 v (nth s n),((n + 1:Nat):Int)),by simp [kB,kA],⟨by simp only [kB,kA]; omega,by simp only; omega⟩,by simp only; omega,?_⟩
          simp only [Int.toNat_natCast,List.foldl_cons,List.length_cons,Prod.mk.injEq,true_and]
          omega
        · left
          rw [if_neg (by omega),if_neg (fun h=>h2 (jR.1 h).2)]
          simp
      · left
        rw [if_neg (by omega),if_neg (fun h=>h1 (jR.1 h).1)]
        simp
    · left
      rw [if_neg (by omega),List.drop_eq_nil_of_le (by omega)]
      simp
  · have:=r8 (cap:=9007199254740993) (by omega) (s.takeWhile isD) (jD s) (Int.le_refl 0)
    simp only [show min (0:Int) 9007199254740993=0 from rfl] at this
    simp [this,gQ]
theorem Jq {a:Int}{k:Nat} (ha:0≤a):Int.tdiv a (k:Int)=a / (k:Int):=Int.tdiv_eq_ediv_of_nonneg ha
theorem NR {V:Int}{z:Nat} (hV:0≤V) (hz:1≤z):V≤V * z:=by
  have:=Int.mul_le_mul_of_nonneg_left (show (1:Int)≤(z:Int) by omega) hV
  omega
theorem Ez {S V:Int}{z:Nat} (hS:0≤S∧S≤9007199254740993) (hV:0≤V) (hz:1≤z∧z≤86400000):uT S (min V 9007199254740993) (z:Int)=some (min (S + V * z) 9007199254740993):=by
  unfold uT
  simp only [aQ,aM,bC]
  have hvz:=NR hV hz.1
  by_cases h1:9007199254740992 < S
  · rw [if_pos h1]
    congr 1; omega
  rw [if_neg h1,aN (by omega),aR (show -9223372036854775808≤(9007199254740992 - S)∧_ by omega),Jq (by omega)]
  have hq0:0≤(9007199254740992 - S) / (z:Int):=Int.ediv_nonneg (by omega) (by omega)
  have hq1:(9007199254740992 - S) / (z:Int)≤9007199254740992 - S:=Int.ediv_le_self _ (by omega)
  rw [aR (by omega)]
  have hiff:=Int.ediv_lt_iff_lt_mul (a:=9007199254740992 - S) (b:=V) (c:=(z:Int)) (by omega)
  by_cases h2:(9007199254740992 - S) / (z:Int) < min V 9007199254740993
  · rw [if_pos h2]
    congr 1
    have:=hiff.1 (by omega)
    omega
  · rw [if_neg h2]
    have h3:¬ (9007199254740992 - S) < V * z:=fun h=>by have:=hiff.2 h; omega
    rw [show min V 9007199254740993=V from by omega]
    rw [aR (show -9223372036854775808≤V * z∧_ by omega),aR (by omega)]
    congr 1; omega
theorem Fk:∀ (f:Nat) (s:Str) (fr:Nat) (S S':Int),min S 9007199254740993=min S' 9007199254740993→nG f s fr S=nG f s fr S'
  | f,[],fr,S,S',h=>by
    rw [sG,sG]; unfold mL
    by_cases h1:S≤9007199254740992
    · rw [if_pos h1,show S'=S by omega,if_pos h1]
    · rw [if_neg h1,if_neg (by omega)]
  | 0,c :: s,fr,S,S',h=>rfl
  | f + 1,c :: s,fr,S,S',h=>by
    unfold nG
    split
    · rfl
    · split
      · rfl
      · rename_i k n z _
        split
        · refine Fk f _ _ _ _ ?_
          have:=Int.mul_nonneg (iO _ (jD (c :: s)) (Int.le_refl 0)) (show (0:Int)≤z by omega)
          unfold gQ; omega
        · rfl
theorem Fa {s:Str}{fr:Nat}{S S':Int} (h:min S 9007199254740993=min S' 9007199254740993):r7 s fr S=r7 s fr S':=Fk _ _ _ _ _ h
theorem Gb (s p:Str) (h:s.length≤9223372036854775807):iB s p=some (decide (s.take p.length=p)):=by
  unfold iB
  rw [Cp s p h,aC]; rfl
theorem Lz (rest:Str) (i:Nat) (n:Str) (k:Nat) (h:dH[i]?=some (n,k)):(rest.take n.length=n∧¬ (n=[109]∧rest.take 2=[109,115])) ↔ dL rest=some (i,n.length,k):=by
  have:i < 5:=(List.getElem?_eq_some_iff.1 h).1
  have hi:i=0 ∨ i=1 ∨ i=2 ∨ i=3 ∨ i=4:=by omega
  rcases rest with _ | ⟨c,r⟩
  · rcases hi with rfl | rfl | rfl | rfl | rfl <;> simp only [dH,List.getElem?_cons_zero,List.getElem?_cons_succ,Option.some.injEq,Prod.mk.injEq] at h <;> obtain ⟨rfl,rfl⟩:=h <;> simp [dL]
  have key:dL (c :: r)=if c=100 then some (0,1,86400000) else if c=104 then some (1,1,3600000) else if c=109 then (if r.take 1=[115] then some (4,2,1) else some (2,1,60000)) else if c=115 then some (3,1,1000) else none:=by
    by_cases h1:c=100
    · subst h1; rfl
    by_cases h2:c=104
    · subst h2; rfl
    by_cases h3:c=109
    · subst h3
      rcases r with _ | ⟨d,r⟩
      · rfl
      · by_cases h4:d=115
        · subst h4; rfl
        · simp only [h1,h2,if_false,if_true,List.take_succ_cons,List.take_zero,List.cons.injEq,and_true,h4]
          unfold dL
          split
          · rename_i e; cases e
          · rename_i e; cases e
          · rename_i e; cases e; exact absurd rfl h4
          · rfl
          · rename_i e; cases e
          · rename_i _ _ e _; exact absurd rfl (e _)
    by_cases h4:c=115
    · subst h4; rfl
    · simp only [h1,h2,h3,h4,if_false]
      unfold dL
      split
      · rename_i e; cases e; exact absurd rfl h1
      · rename_i e; cases e; exact absurd rfl h2
      · rename_i e; cases e; exact absurd rfl h3
      · rename_i e; cases e; exact absurd rfl h3
      · rename_i e; cases e; exact absurd rfl h4
      · rfl
  rw [key]
  rcases hi with rfl | rfl | rfl | rfl | rfl <;> simp only [dH,List.getElem?_cons_zero,List.getElem?_cons_succ,Option.some.injEq,Prod.mk.injEq] at h <;> obtain ⟨rfl,rfl⟩:=h <;>
    (simp only [List.length_cons,List.length_nil,List.take_succ_cons,List.take_zero,List.cons.injEq,and_true]
     by_cases h1:c=100
     · subst h1; simp
     by_cases h2:c=104
     · subst h2; simp
     by_cases h3:c=109
     · subst h3
       by_cases h4:r.take 1=[115]
       · simp [h4]
       · simp [h4]
     by_cases h4:c=115
     · subst h4; simp
     · simp [h1,h2,h3,h4])
theorem ER {s:Str}{k n z:Nat} (h:dL s=some (k,n,z)):∃ nm,dH[k]?=some (nm,z)∧nm.length=n:=by
  unfold dL at h
  split at h <;> first | (cases h; done) | (simp only [Option.some.injEq,Prod.mk.injEq] at h; obtain ⟨rfl,rfl,rfl⟩:=h; exact ⟨_,rfl,rfl⟩)
theorem Cl (s:Str) (h:s.length≤1000000):qA s=some (mG s):=by
  unfold qA
  simp only [aQ]
  refine (cW (fun x:Str × Int × Int × Bool=>x.1.length≤1000000∧(0≤x.2.1∧x.2.1≤9007199254740993)∧(0≤x.2.2.1∧x.2.2.1≤5)) (fun x=>x.1.length)
    (fun x=>if x.1=[]∧x.2.2.2=true then (0,1) else r7 x.1 x.2.2.1.toNat x.2.1) ?_ (by refine ⟨h,?_,?_⟩ <;> simp)).trans ?_
  · rintro ⟨t,sum,fr,first⟩ ⟨ht,hs,hf⟩
    simp only at ht hs hf ⊢
    obtain ⟨fr,rfl⟩:=Int.eq_ofNat_of_zero_le hf.1
    simp only [Int.toNat_natCast]
    by_cases hgo:first=true ∨ t ≠ []
    · rw [show (bif first then true else !decide (t=[]))=true from by cases first <;> simp_all]
      simp only [aV]
      rw [H4 t ht,aC]
      simp only [aM]
      have e:=List.takeWhile_append_dropWhile (p:=isD) (l:=t)
      have hlen:=congrArg List.length e
      rw [List.length_append] at hlen
      have hdt:t.drop (t.takeWhile isD).length=t.dropWhile isD:=by
        conv=>lhs; arg 2; rw [← e]
        exact List.drop_left
      by_cases hds:t.takeWhile isD=[]
      · left
        rw [if_pos (by rw [hds]; rfl)]
        by_cases h0:t=[]
        · have hfi:first=true:=hgo.resolve_right (fun h=>h h0)
          rw [if_pos ⟨h0,hfi⟩]; rfl
        · rw [if_neg (fun h=>h0 h.1),Cz h0,if_pos hds]; rfl
      · have hpos:0 < (t.takeWhile isD).length:=List.length_pos_iff.2 hds
        have h0:t ≠ []:=fun h=>by rw [h] at hds; exact hds rfl
        rw [if_neg (by omega),aN (by omega),if_neg (fun h=>h0 h.1),Cz h0,if_neg hds]
        have hcut:(t.take t.length).drop (((t.takeWhile isD).length:Int)).toNat=t.dropWhile isD:=by simpa using hdt
        have hrest:(t.dropWhile isD).length≤1000000:=by omega
        have hstep:=@xK t
        simp only [hcut]
        generalize hrs:t.dropWhile isD=rest at *
        generalize hdg:t.takeWhile isD=ds at *
        have hval:0≤gQ ds:=by rw [← hdg]; exact iO _ (jD t) (Int.le_refl 0)
        rw [eA 5 (fun i=>match dL rest with
          | none=>Sum.inr ((0:Int),(1:Int))
          | some (k,n,z)=>if fr≤k∧i≤k then Sum.inl (rest.drop n,min (sum + gQ ds * z) 9007199254740993,(k:Int) + 1,false) else Sum.inr (0,1)) ?_ ?_]
        · rcases hu:dL rest with _ | ⟨k,n,z⟩
          · left; rfl
          · simp only
            have hk:=mV hu
            by_cases h2:fr≤k
            · right
              rw [if_pos ⟨h2,by omega⟩,if_pos h2]
              refine ⟨_,rfl,⟨?_,?_,?_⟩,?_,?_⟩
              · simp only [List.length_drop]; omega
              · have:=Int.mul_nonneg hval (show (0:Int)≤z by omega)
                simp only; omega
              · simp only; omega
              · have:=hstep hu hds
                simp only; omega
              · simp only [Bool.false_eq_true,and_false,if_false]
                rw [show ((k:Int) + 1).toNat=k + 1 by omega]
                exact Fa (by omega)
            · left
              rw [if_neg (fun h=>h2 h.1),if_neg h2]
        · intro i hi
          obtain ⟨n,k,e1,_,_,hk,hn1,hn2⟩:=Fz i hi
          have hud:dH[i]?=some (n,k):=by
            have:i=0 ∨ i=1 ∨ i=2 ∨ i=3 ∨ i=4:=by omega
            rcases this with rfl | rfl | rfl | rfl | rfl <;> (cases e1; rfl)
          have hh:=Lz rest i n k hud
          rw [if_pos (by omega),a7 e1,aR (show -9223372036854775808≤(i:Int) + 1∧_ by omega),show (i:Int) + 1=((i + 1:Nat):Int) by omega]
          by_cases h1:(i:Int) < (fr:Int)
          · right
            rw [if_pos h1]
            refine ⟨rfl,?_⟩
            rcases dL rest with _ | ⟨k',n',z'⟩
            · rfl
            · simp only
              by_cases h2:fr≤k'
              · rw [if_pos ⟨h2,by omega⟩,if_pos ⟨h2,by omega⟩]
              · rw [if_neg (fun h=>h2 h.1),if_neg (fun h=>h2 h.1)]
          · rw [if_neg h1,Gb _ _ (by omega),aC,bE,aM]
            by_cases hit:dL rest=some (i,n.length,k)
            · obtain ⟨g1,g2⟩:=hh.2 hit
              have hk2:=mV hit
              left
              rw [if_pos g1,hit]
              simp only
              rw [if_pos (show fr≤i∧i≤i from ⟨by omega,Nat.le_refl i⟩)]
              have hcd:(rest.take (rest.length:Int).toNat).drop ((n.length:Int)).toNat=rest.drop n.length:=by simp
              by_cases hm:n=[109]
              · rw [if_pos hm,Gb _ _ (by omega),aC,aM,if_neg (show ¬ (rest.take ([109,115]:Str).length=[109,115]) from fun h=>g2 ⟨hm,h⟩),Ez hs hval hk,aC,aN (by omega),List.take_length]
                simp
              · rw [if_neg hm,Ez hs hval hk,aC,aN (by omega),List.take_length]
                simp
            · have hn:¬ (rest.take n.length=n∧¬ (n=[109]∧rest.take 2=[109,115])):=fun h=>hit (hh.1 h)
              right
              refine ⟨?_,?_⟩
              · by_cases g1:rest.take n.length=n
                · rw [if_pos g1]
                  have g2:n=[109]∧rest.take 2=[109,115]:=Classical.byContradiction fun h=>hn ⟨g1,h⟩
                  rw [if_pos g2.1,Gb _ _ (by omega),aC,aM,if_pos (show rest.take ([109,115]:Str).length=[109,115] from g2.2)]
                  rfl
                · rw [if_neg g1]; rfl
              · have hkk:∀ k' n' z',dL rest=some (k',n',z')→k' ≠ i:=by
                  intro k' n' z' hu he
                  subst he
                  obtain ⟨nm,g3,g4⟩:=ER hu
                  rw [hud] at g3
                  cases g3
                  exact hit (by rw [hu,g4])
                rcases hu:dL rest with _ | ⟨k',n',z'⟩
                · rfl
                · have:=hkk k' n' z' hu
                  simp only
                  by_cases h3:fr≤k'∧i≤k'
                  · rw [if_pos h3,if_pos ⟨h3.1,by omega⟩]
                  · rw [if_neg h3,if_neg (fun h=>h3 ⟨h.1,by omega⟩)]
        · rw [if_neg (by omega)]
          rcases hu:dL rest with _ | ⟨k',n',z'⟩
          · rfl
          · have:=mV hu
            try simp only
            rw [if_neg (by omega)]; rfl
    · left
      have hf2:first=false:=by cases first <;> simp_all
      have ht2:t=[]:=Classical.byContradiction fun h=>hgo (.inr h)
      subst hf2; subst ht2
      simp only [Bool.false_eq_true,and_false,if_false,AH]
      simp only [decide_true,Bool.not_true,cond_false,bB]
      rw [xP,aC,bE]
      unfold mL
      by_cases h1:sum≤9007199254740992
      · rw [if_pos h1,show tmB sum=true from oD.2 ⟨hs.1,h1⟩]; rfl
      · rw [if_neg h1,show tmB sum=false from Bool.eq_false_iff.2 fun h=>h1 (oD.1 h).2]; rfl
  · simp only [F0]
    simp
end Go.Proofs.YtgkmbhllcekagaaGreatDoor.AM
/- The lexer's pieces: letters, blanks, runs. -/
namespace Go.Proofs.YtgkmbhllcekagaaGreatDoor.AM
open Go
def isL (c:UInt8):Bool:=oK (c.toNat:Int)
theorem iC (c:UInt8):oM (c.toNat:Int)=some (isL c):=by
  unfold oM isL oK
  simp only [aQ,gM,fK,bC]
theorem iW (c:UInt8):nK (c.toNat:Int)=some (isD c):=by
  unfold nK isD
  simp only [aQ,gM,bC]
  rw [show decide ((48:Int)≤(c.toNat:Int))=decide (48≤c.toNat) from by rw [decide_eq_decide]; omega,show decide ((c.toNat:Int)≤57)=decide (c.toNat≤57) from by rw [decide_eq_decide]; omega]
def isW (c:UInt8):Bool:=decide (c=32) || decide (c=9) || decide (c=13) || decide (c=10)
theorem Ch (c:UInt8):s7 (c.toNat:Int)=some (isW c):=by
  unfold s7 isW
  simp only [aQ,fK,bC]
  have h1:=zL c 32 (by decide)
  have h2:=zL c 9 (by decide)
  have h3:=zL c 13 (by decide)
  have h4:=zL c 10 (by decide)
  simp only [Int.cast_ofNat_Int] at h1 h2 h3 h4
  rw [h1,h2,h3,h4]; rfl
theorem uC {σ β:Type}{ph:σ→List (Nat × AV)}{ob:σ→List Obj}{step:σ→Option (σ ⊕ β)}{s s':σ} (h:step s=some (.inl s')):bK ph ob step s=bK ph ob step s':=by
  unfold bK; rw [yZ,h]; rfl
theorem lY {σ β:Type}{ph:σ→List (Nat × AV)}{ob:σ→List Obj}{step:σ→Option (σ ⊕ β)}{s:σ}{r:β} (h:step s=some (.inr r)):bK ph ob step s=some r:=by
  unfold bK; rw [yZ,h]; rfl
theorem MV {s:Str}{a:Nat}{c:UInt8} (h:s[a]?=some c) (hs:s.length≤1000000) (hc:isW c=true):eY s (a:Int)=eY s ((a + 1:Nat):Int):=by
  have ha:=(List.getElem?_eq_some_iff.1 h).1
  refine uC ?_
  simp only [aQ,aM]
  rw [if_pos (by omega),a7 h,Ch,aC,hc,aV,aR (by omega)]
  rfl
theorem Bx {s:Str}{a:Nat}{c:UInt8} (h:s[a]?=some c) (hc:isW c=false) (h35:c ≠ 35):eY s (a:Int)=some (a:Int):=by
  have ha:=(List.getElem?_eq_some_iff.1 h).1
  refine lY ?_
  simp only [aQ,aM]
  have hk:=j9 c 35 (by decide)
  simp only [Int.cast_ofNat_Int] at hk
  rw [if_pos (by omega),a7 h,Ch,aC,hc,bB,if_neg (fun e=>h35 (hk.1 e))]
  rfl
theorem Pt {s:Str}{a:Nat} (h:s.length≤a):eY s (a:Int)=some (a:Int):=by
  refine lY ?_
  simp only [aQ,aM]
  rw [if_neg (by omega)]
  rfl
def isR (p:Bool) (c:UInt8):Bool:=isL c || isD c || (p && decide (c=46))
theorem MF (s:Str) (p:Bool) (hs:s.length≤1000000):mX s p=some (1 + ((s.drop 1).takeWhile (isR p)).length:Int):=by
  unfold mX
  simp only [aQ]
  refine (cW (fun x:Bool × Int=>x.1=p∧1≤x.2∧x.2≤s.length + 1) (fun x=>s.length + 2 - x.2.toNat) (fun x=>x.2 + (((s.drop x.2.toNat).takeWhile (isR x.1)).length:Int)) ?_ (by simp only; refine ⟨trivial,?_,?_⟩ <;> omega)).trans (by simp)
  rintro ⟨q,i⟩ ⟨hq,h0,h1⟩
  simp only at hq h0 h1 ⊢
  subst hq
  obtain ⟨n,rfl⟩:=Int.eq_ofNat_of_zero_le (show 0≤i by omega)
  simp only [aM,Int.toNat_natCast]
  by_cases hl:n < s.length
  · rw [if_pos (by omega),a7 (bQ hl),iC,aC,eF hl,List.takeWhile_cons,iW]
    have hk:=zL (nth s n) 46 (by decide)
    simp only [Int.cast_ofNat_Int] at hk
    have hk:decide (((nth s n).toNat:Int)=46)=decide (nth s n=46):=hk
    have hR:isR q (nth s n)=(isL (nth s n) || isD (nth s n) || (q && decide (nth s n=46))):=rfl
    have e:((n:Int) + 1)=((n + 1:Nat):Int):=by omega
    rw [aR (by omega),e,hR]
    rw [hk]
    generalize isL (nth s n)=b1
    generalize isD (nth s n)=b2
    generalize decide (nth s n=46)=b3
    have fin:∃ s':Bool × Int,(some (Sum.inl (q,((n + 1:Nat):Int))):Option (Bool × Int ⊕ Int))=some (.inl s')∧(s'.1=q∧1≤s'.2∧s'.2≤(s.length:Int) + 1)∧s.length + 2 - s'.2.toNat < s.length + 2 - n ∧
        s'.2 + (((s.drop s'.2.toNat).takeWhile (isR s'.1)).length:Int)=(n:Int) + ((nth s n :: (s.drop (n + 1)).takeWhile (isR q)).length:Int) :=
      ⟨(q,((n + 1:Nat):Int)),rfl,⟨rfl,by simp only; omega,by simp only; omega⟩,by simp only; omega,by simp only [Int.toNat_natCast,List.length_cons]; omega⟩
    cases q <;> cases b1 <;> cases b2 <;> cases b3 <;> first | (left; rfl) | (left; simp; done) | (right; exact fin) | skip
  · left
    rw [if_neg (by omega),List.drop_eq_nil_of_le (by omega)]
    simp
end Go.Proofs.YtgkmbhllcekagaaGreatDoor.AM
/- The lexer: a text in quotes. -/
namespace Go.Proofs.YtgkmbhllcekagaaGreatDoor.AM
open Go
theorem OG (v t:Str) (k:Nat):(cN v ++ t).drop (1 + ((v.take k).flatMap dV).length)=(v.drop k).flatMap dV ++ 34 :: t:=by
  unfold cN
  conv=>lhs; rw [← List.take_append_drop k v]
  rw [List.flatMap_append,List.take_append_drop]
  rw [show (34 :: ((v.take k).flatMap dV ++ (v.drop k).flatMap dV ++ [34]) ++ t:Str)=(34 :: (v.take k).flatMap dV) ++ ((v.drop k).flatMap dV ++ 34 :: t) from by simp]
  rw [List.drop_append_of_le_length (by simp; omega),List.drop_eq_nil_of_le (by simp; omega)]
  rfl
theorem Ii:∀ (v:Str),v.length≤(v.flatMap dV).length
  | []=>by simp
  | c :: v=>by
    rw [List.flatMap_cons,List.length_append,List.length_cons]
    have:=(DI c).1
    have:=Ii v
    omega
theorem Kh (v t:Str) (h:(cN v ++ t).length≤1000000):sI (cN v ++ t)=some (v,((cN v).length:Int),0):=by
  have hD:=OG v t
  have hq:(cN v).length=2 + (v.flatMap dV).length:=by simp [cN]; omega
  rw [List.length_append] at h
  unfold sI
  generalize hs:cN v ++ t=s at *
  have hsl:s.length=(cN v).length + t.length:=by rw [← hs,List.length_append]
  simp only [aQ,gI,y6]
  refine cW (fun x:List Int × Int=>∃ k,k≤v.length∧x.2=1 + (((v.take k).flatMap dV).length:Int)∧x.1.length≤k∧fG x.1=v.take k) (fun x=>s.length - x.2.toNat) (fun _=>(v,((cN v).length:Int),0)) ?_ ⟨0,by omega,by simp,by simp,rfl⟩
  rintro ⟨acc,i⟩ ⟨k,hk,hi,hal,hst⟩
  simp only at hi hal hst
  have hd:=hD k
  have hle:((v.take k).flatMap dV).length≤(v.flatMap dV).length:=by
    conv=>rhs; rw [← List.take_append_drop k v,List.flatMap_append,List.length_append]
    omega
  have hg:∀ j,s[1 + ((v.take k).flatMap dV).length + j]?=((v.drop k).flatMap dV ++ 34 :: t)[j]?:=fun j=>by rw [← hd,List.getElem?_drop]
  have hlen2:((v.take k).flatMap dV).length + ((v.drop k).flatMap dV).length=(v.flatMap dV).length:=by
    conv=>rhs; rw [← List.take_append_drop k v,List.flatMap_append,List.length_append]
  have hvl:=Ii v
  subst hi
  obtain ⟨n,hn⟩:∃ n,n=1 + ((v.take k).flatMap dV).length:=⟨_,rfl⟩
  rw [← hn] at hg
  simp only [show (1 + (((v.take k).flatMap dV).length:Int))=(n:Int) by omega,aM,bE]
  rcases Nat.lt_or_ge k v.length with hkv | hkv
  · right
    rw [eF hkv] at hg hlen2
    rw [List.flatMap_cons] at hg hlen2
    rw [List.length_append] at hlen2
    have ht1:v.take (k + 1)=v.take k ++ [nth v k]:=by
      rw [List.take_succ,bQ hkv]; rfl
    have hfl:(((v.take (k + 1)).flatMap dV).length:Int)=(((v.take k).flatMap dV).length:Int) + ((dV (nth v k)).length:Int):=by rw [ht1]; simp
    have hone:=DI (nth v k)
    rw [if_pos (by omega)]
    generalize hc:nth v k=c at *
    by_cases k1:c=92
    · subst k1
      have g0:s[n]?=some 92:=by have:=hg 0; simpa [dV] using this
      have g1:s[n + 1]?=some 92:=by have:=hg 1; simpa [dV] using this
      have hl2:(dV 92).length=2:=rfl
      rw [a7 g0,if_neg (by decide),if_neg (by decide),if_pos (by decide),aR (by omega),if_neg (by omega),show (n:Int) + 1=((n + 1:Nat):Int) by omega,a7 g1,if_pos (by decide),a7 g1,aN (by simp; omega),aR (by omega)]
      refine ⟨_,rfl,⟨k + 1,by omega,by simp only; rw [hfl,hl2]; omega,by simp; omega,?_⟩,by simp only; omega,trivial⟩
      rw [dZ,hst,ht1]; rfl
    by_cases k2:c=34
    · subst k2
      have g0:s[n]?=some 92:=by have:=hg 0; simpa [dV] using this
      have g1:s[n + 1]?=some 34:=by have:=hg 1; simpa [dV] using this
      have hl2:(dV 34).length=2:=rfl
      rw [a7 g0,if_neg (by decide),if_neg (by decide),if_pos (by decide),aR (by omega),if_neg (by omega),show (n:Int) + 1=((n + 1:Nat):Int) by omega,a7 g1,if_neg (by decide),a7 g1,if_pos (by decide),a7 g1,aN (by simp; omega),aR (by omega)]
      refine ⟨_,rfl,⟨k + 1,by omega,by simp only; rw [hfl,hl2]; omega,by simp; omega,?_⟩,by simp only; omega,trivial⟩
      rw [dZ,hst,ht1]; rfl
    by_cases k3:c=10
    · subst k3
      have g0:s[n]?=some 92:=by have:=hg 0; simpa [dV] using this
      have g1:s[n + 1]?=some 110:=by have:=hg 1; simpa [dV] using this
      have hl2:(dV 10).length=2:=rfl
      rw [a7 g0,if_neg (by decide),if_neg (by decide),if_pos (by decide),aR (by omega),if_neg (by omega),show (n:Int) + 1=((n + 1:Nat):Int) by omega,a7 g1,if_neg (by decide),a7 g1,if_neg (by decide),a7 g1,if_pos (by decide),aN (by simp; omega),aR (by omega)]
      refine ⟨_,rfl,⟨k + 1,by omega,by simp only; rw [hfl,hl2]; omega,by simp; omega,?_⟩,by simp only; omega,trivial⟩
      rw [dZ,hst,ht1]; rfl
    · have he:dV c=[c]:=by unfold dV; rw [if_neg k1,if_neg k2,if_neg k3]
      have g0:s[n]?=some c:=by have:=hg 0; simpa [he] using this
      have u1:=j9 c 34 (by decide)
      have u2:=j9 c 10 (by decide)
      have u3:=j9 c 92 (by decide)
      simp only [Int.cast_ofNat_Int] at u1 u2 u3
      have hl2:(dV c).length=1:=by rw [he]; rfl
      rw [a7 g0,if_neg (fun e=>k2 (u1.1 e)),if_neg (fun e=>k3 (u2.1 e)),if_neg (fun e=>k1 (u3.1 e)),aN (by simp; omega),aR (by omega)]
      refine ⟨_,rfl,⟨k + 1,by omega,by simp only; rw [hfl,hl2]; omega,by simp; omega,?_⟩,by simp only; omega,trivial⟩
      rw [dZ,hst,ht1,G8]
  · left
    have hkk:k=v.length:=by omega
    subst hkk
    rw [List.take_length] at hst hn
    have g0:s[n]?=some 34:=by have:=hg 0; simpa using this
    rw [if_pos (by omega),a7 g0,if_pos (by decide),aR (by omega),hst]
    simp only [bC,gZ,Option.some.injEq,Sum.inr.injEq,Prod.mk.injEq,true_and,and_true]
    omega
end Go.Proofs.YtgkmbhllcekagaaGreatDoor.AM
/- The lexer: what begins. -/
namespace Go.Proofs.YtgkmbhllcekagaaGreatDoor.AM
open Go
theorem KN {t:Str}{c:UInt8} (h:t[0]?=some c) (hc:isL c=true):cZ t=some (1,0):=by
  unfold cZ
  rw [cU (x:=c) (by omega) (by simpa using h),iC,aC,hc]; rfl
theorem MI {t:Str}{c:UInt8} (h:t[0]?=some c) (hc:isL c=false) (hd:isD c=true):cZ t=some (2,0):=by
  unfold cZ
  rw [cU (x:=c) (by omega) (by simpa using h),iC,aC,hc,bB,iW,aC,hd]; rfl
theorem LP {t:Str}{d:UInt8} (h:t[0]?=some 45) (h1:t[1]?=some d) (hd:isD d=true):cZ t=some (2,0):=by
  have hl:=(List.getElem?_eq_some_iff.1 h1).1
  unfold cZ
  rw [cU (x:=45) (by omega) (by simpa using h),iC,aC,show isL 45=false from by decide,bB,iW,aC,show isD 45=false from by decide,bB]
  simp only [aQ]
  rw [show (bif decide (((45:UInt8).toNat:Int)=45) then decide ((1:Int) < (t.length:Int)) else false)=true from by
    rw [show decide (((45:UInt8).toNat:Int)=45)=true from by decide]; simp; omega]
  rw [aV,cU (x:=d) (by omega) (by simpa using h1),iW,aC,hd]; rfl
theorem KC {t:Str} (h:t[0]?=some 34):cZ t=some (3,0):=by
  unfold cZ
  rw [cU (x:=34) (by omega) (by simpa using h),iC,aC,show isL 34=false from by decide,bB,iW,aC,show isD 34=false from by decide,bB]
  simp only [aQ]
  rw [show (bif decide (((34:UInt8).toNat:Int)=45) then decide ((1:Int) < (t.length:Int)) else false)=false from by
    rw [show decide (((34:UInt8).toNat:Int)=45)=false from by decide]; rfl]
  rfl
end Go.Proofs.YtgkmbhllcekagaaGreatDoor.AM
/- The lexer: signs. -/
namespace Go.Proofs.YtgkmbhllcekagaaGreatDoor.AM
open Go
theorem JL {t:Str}{c:UInt8} (h:t[0]?=some c) (hc:isL c=false∧isD c=false∧c ≠ 45∧c ≠ 34∧¬ 0≤Lib.indexByte [61,33,60,62] c∧0≤Lib.indexByte [123,125,40,41,44,58,59,61,60,62] c):cZ t=some (4,1):=by
  obtain ⟨h1,h2,h3,h4,h5,h6⟩:=hc
  have u1:=j9 c 45 (by decide)
  have u2:=j9 c 34 (by decide)
  simp only [Int.cast_ofNat_Int] at u1 u2
  unfold cZ
  rw [cU (x:=c) (by omega) (by simpa using h),iC,aC,h1,bB,iW,aC,h2,bB]
  simp only [aQ]
  rw [show decide ((c.toNat:Int)=45)=false from by rw [decide_eq_false_iff_not]; exact fun e=>h3 (u1.1 e),show decide ((c.toNat:Int)=34)=false from by rw [decide_eq_false_iff_not]; exact fun e=>h4 (u2.1 e)]
  simp only [cond_false,bB]
  have hcc:(c.toNat:Int).toNat.toUInt8=c:=by simp
  unfold strings_IndexByte
  rw [hcc]
  simp only [aC,aM]
  rw [show decide ((0:Int)≤Lib.indexByte (bs [61,33,60,62]).data.toList c)=false from by rw [decide_eq_false_iff_not]; exact h5]
  simp only [cond_false,bB]
  have h6':0≤Lib.indexByte (bs [123,125,40,41,44,58,59,61,60,62]).data.toList c:=h6
  rw [if_pos h6']
  rfl
theorem J5 {t:Str}{c:UInt8} (h:t[0]?=some c) (ht:t[1]?=some 61) (hc:isL c=false∧isD c=false∧c ≠ 45∧c ≠ 34∧0≤Lib.indexByte [61,33,60,62] c):cZ t=some (4,2):=by
  obtain ⟨h1,h2,h3,h4,h5⟩:=hc
  have u1:=j9 c 45 (by decide)
  have u2:=j9 c 34 (by decide)
  simp only [Int.cast_ofNat_Int] at u1 u2
  have hl:=(List.getElem?_eq_some_iff.1 ht).1
  unfold cZ
  rw [cU (x:=c) (by omega) (by simpa using h),iC,aC,h1,bB,iW,aC,h2,bB]
  simp only [aQ]
  rw [show decide ((c.toNat:Int)=45)=false from by rw [decide_eq_false_iff_not]; exact fun e=>h3 (u1.1 e),show decide ((c.toNat:Int)=34)=false from by rw [decide_eq_false_iff_not]; exact fun e=>h4 (u2.1 e)]
  simp only [cond_false,bB]
  have hcc:(c.toNat:Int).toNat.toUInt8=c:=by simp
  unfold strings_IndexByte
  rw [hcc]
  simp only [aC]
  rw [show decide ((0:Int)≤Lib.indexByte (bs [61,33,60,62]).data.toList c)=true from by rw [decide_eq_true_eq]; exact h5,show decide ((1:Int) < (t.length:Int))=true from by rw [decide_eq_true_eq]; omega]
  simp only [cond_true,aV]
  rw [cU (x:=61) (by omega) (by simpa using ht)]
  rfl
theorem Ir {t:Str}{c d:UInt8} (h:t[0]?=some c) (ht:t[1]?=some d) (hd:d ≠ 61) (hc:isL c=false∧isD c=false∧c ≠ 45∧c ≠ 34∧0≤Lib.indexByte [61,33,60,62] c∧0≤Lib.indexByte [123,125,40,41,44,58,59,61,60,62] c):cZ t=some (4,1):=by
  obtain ⟨h1,h2,h3,h4,h5,h6⟩:=hc
  have u1:=j9 c 45 (by decide)
  have u2:=j9 c 34 (by decide)
  have u3:=j9 d 61 (by decide)
  simp only [Int.cast_ofNat_Int] at u1 u2 u3
  have hl:=(List.getElem?_eq_some_iff.1 ht).1
  unfold cZ
  rw [cU (x:=c) (by omega) (by simpa using h),iC,aC,h1,bB,iW,aC,h2,bB]
  simp only [aQ]
  rw [show decide ((c.toNat:Int)=45)=false from by rw [decide_eq_false_iff_not]; exact fun e=>h3 (u1.1 e),show decide ((c.toNat:Int)=34)=false from by rw [decide_eq_false_iff_not]; exact fun e=>h4 (u2.1 e)]
  simp only [cond_false,bB]
  have hcc:(c.toNat:Int).toNat.toUInt8=c:=by simp
  unfold strings_IndexByte
  rw [hcc]
  simp only [aC]
  rw [show decide ((0:Int)≤Lib.indexByte (bs [61,33,60,62]).data.toList c)=true from by rw [decide_eq_true_eq]; exact h5,show decide ((1:Int) < (t.length:Int))=true from by rw [decide_eq_true_eq]; omega]
  simp only [cond_true,aV]
  rw [cU (x:=d) (by omega) (by simpa using ht)]
  simp only [aM]
  have h6':0≤Lib.indexByte (bs [123,125,40,41,44,58,59,61,60,62]).data.toList c:=h6
  rw [if_neg (fun e=>hd (u3.1 e)),if_pos h6']
  rfl
end Go.Proofs.YtgkmbhllcekagaaGreatDoor.AM
/- The lexer: pieces one behind the other. -/
namespace Go.Proofs.YtgkmbhllcekagaaGreatDoor.AM
open Go
noncomputable def uP (a0:Str) (x2:(List aK) × Int):Option ((List aK) × Int ⊕ (List aK) × Int × Int) :=
 aA vI ((a0.length:Int)) fun x3=>
 aA vB (decide (x2.2 < x3)) fun x4=>
 aG x4 (
 aA vI ((x2.1.length:Int)) fun x5=>
 aA vB (decide (x5=(65536:Int))) fun x6=>
 aG x6 (
 aY<|
 aH (x2.1,x2.2,(4:Int))) (
 gdM (0≤x2.2∧x2.2≤(a0.length:Int)∧(a0.length:Int)≤(a0.length:Int))<|
 aA vS ((a0.take (a0.length:Int).toNat).drop x2.2.toNat) fun x7=>
 aI (fun x8=>.tup [vI x8.1,vI x8.2]) (fun x8=>[tk x2.1.length 3 53]) (cZ x7) fun x8=>
 aA vB (decide (x8.1=(0:Int))) fun x9=>
 aG x9 (
 aY<|
 aH (x2.1,x2.2,(1:Int))) (
 aA vB (decide (x8.1=(3:Int))) fun x10=>
 aG x10 (
 gdM (0≤x2.2∧x2.2≤(a0.length:Int)∧(a0.length:Int)≤(a0.length:Int))<|
 aA vS ((a0.take (a0.length:Int).toNat).drop x2.2.toNat) fun x11=>
 aI (fun x12=>.tup [vS x12.1,vI x12.2.1,vI x12.2.2]) (fun x12=>[tk x2.1.length 3 53]) (sI x11) fun x12=>
 aA vB (!decide (x12.2.2=(0:Int))) fun x13=>
 aG x13 (
 aA vI (wI (x2.2 + x12.2.1)) fun x14=>
 aY<|
 aH (x2.1,x14,x12.2.2)) (
 aA (sx aF) ([(⟨x8.1,x2.2,x12.1⟩:aK)]:(List aK)) fun x15=>
 gdM ((x2.1.length + x15.length) * 32≤140737488355328)<|
 dT (so 0 aF) (fun x16=>[tk x16.length 3 53]) (x2.1 ++ x15) fun x16=>
 aA vI (wI (x2.2 + x12.2.1)) fun x17=>
 aI vI (fun x18=>[tk x16.length 3 53]) (eY a0 x17) fun x18=>
 aU (x16,x18))) (
 aA vB (decide (x8.1=(1:Int))) fun x19=>
 aG x19 (
 gdM (0≤x2.2∧x2.2≤(a0.length:Int)∧(a0.length:Int)≤(a0.length:Int))<|
 aA vS ((a0.take (a0.length:Int).toNat).drop x2.2.toNat) fun x20=>
 aA vB (decide (x8.1=(2:Int))) fun x21=>
 aI vI (fun x22=>[tk x2.1.length 3 53]) (mX x20 x21) fun x22=>
 aA vI (wI (x2.2 + x22)) fun x23=>
 gdM (0≤x2.2∧x2.2≤x23∧x23≤(a0.length:Int))<|
 aA vS ((a0.take x23.toNat).drop x2.2.toNat) fun x24=>
 aA (sx aF) ([(⟨x8.1,x2.2,x24⟩:aK)]:(List aK)) fun x25=>
 gdM ((x2.1.length + x25.length) * 32≤140737488355328)<|
 dT (so 0 aF) (fun x26=>[tk x26.length 3 53]) (x2.1 ++ x25) fun x26=>
 aA vI (wI (x2.2 + x22)) fun x27=>
 aI vI (fun x28=>[tk x26.length 3 53]) (eY a0 x27) fun x28=>
 aU (x26,x28)) (
 aA vB (decide (x8.1=(2:Int))) fun x29=>
 aG x29 (
 gdM (0≤x2.2∧x2.2≤(a0.length:Int)∧(a0.length:Int)≤(a0.length:Int))<|
 aA vS ((a0.take (a0.length:Int).toNat).drop x2.2.toNat) fun x30=>
 aA vB (decide (x8.1=(2:Int))) fun x31=>
 aI vI (fun x32=>[tk x2.1.length 3 53]) (mX x30 x31) fun x32=>
 aA vI (wI (x2.2 + x32)) fun x33=>
 gdM (0≤x2.2∧x2.2≤x33∧x33≤(a0.length:Int))<|
 aA vS ((a0.take x33.toNat).drop x2.2.toNat) fun x34=>
 aA (sx aF) ([(⟨x8.1,x2.2,x34⟩:aK)]:(List aK)) fun x35=>
 gdM ((x2.1.length + x35.length) * 32≤140737488355328)<|
 dT (so 0 aF) (fun x36=>[tk x36.length 3 53]) (x2.1 ++ x35) fun x36=>
 aA vI (wI (x2.2 + x32)) fun x37=>
 aI vI (fun x38=>[tk x36.length 3 53]) (eY a0 x37) fun x38=>
 aU (x36,x38)) (
 aA vI (wI (x2.2 + x8.2)) fun x39=>
 gdM (0≤x2.2∧x2.2≤x39∧x39≤(a0.length:Int))<|
 aA vS ((a0.take x39.toNat).drop x2.2.toNat) fun x40=>
 aA (sx aF) ([(⟨x8.1,x2.2,x40⟩:aK)]:(List aK)) fun x41=>
 gdM ((x2.1.length + x41.length) * 32≤140737488355328)<|
 dT (so 0 aF) (fun x42=>[tk x42.length 3 53]) (x2.1 ++ x41) fun x42=>
 aA vI (wI (x2.2 + x8.2)) fun x43=>
 aI vI (fun x44=>[tk x42.length 3 53]) (eY a0 x43) fun x44=>
 aU (x42,x44))))))) (
 aY<|
 aA vI ((a0.length:Int)) fun x45=>
 aH (x2.1,x45,(0:Int)))
theorem KF (a0:Str):lK a0=aI vI (fun x1=>[]) (eY a0 (0:Int)) fun x1=>bK (fun (x2:(List aK) × Int)=>[(0,vS a0),(5,so 0 aF x2.1),(6,vI x2.2)]) (fun (x2:(List aK) × Int)=>[tk x2.1.length 3 53]) (uP a0) (([]:List aK),x1):=rfl
inductive Lx:Str→Nat→List aK→Prop
  | nil (a:Nat):Lx [] a []
  | sp {c:UInt8}{t:Str}{a:Nat}{l:List aK} (hc:isW c=true) (h:Lx t (a + 1) l):Lx (c :: t) a l
  | run {w t:Str}{a:Nat}{l:List aK}{k:Int} (hk:k=1 ∨ k=2) (hw:∃ c w',w=c :: w'∧isW c=false∧c ≠ 35) (h1:cZ (w ++ t)=some (k,0)) (h2:mX (w ++ t) (decide (k=2))=some (w.length:Int)) (h:Lx t (a + w.length) l):Lx (w ++ t) a (⟨k,a,w⟩ :: l)
  | text {v t:Str}{a:Nat}{l:List aK} (h:Lx t (a + (cN v).length) l):Lx (cN v ++ t) a (⟨3,a,v⟩ :: l)
  | sign {w t:Str}{a:Nat}{l:List aK} (hw:∃ c w',w=c :: w'∧isW c=false∧c ≠ 35) (h1:cZ (w ++ t)=some (4,(w.length:Int))) (h:Lx t (a + w.length) l):Lx (w ++ t) a (⟨4,a,w⟩ :: l)
end Go.Proofs.YtgkmbhllcekagaaGreatDoor.AM
/- The lexer: what is told piece by piece is read. -/
namespace Go.Proofs.YtgkmbhllcekagaaGreatDoor.AM
open Go
theorem AY {σ β α:Type}{ph:σ→List (Nat × AV)}{ob:σ→List Obj}{step:σ→Option (σ ⊕ β)}{s:σ}{enc:α→AV}{ob1 ob2:α→List Obj}{e:Option α}{g:α→σ} (h:step s=aI enc ob1 e fun x=>aU (g x)):bK ph ob step s=aI enc ob2 e fun x=>bK ph ob step (g x):=by
  unfold bK
  rw [yZ,h]
  cases e <;> rfl
theorem Qo (s:Str) (hs:s.length≤1000000) {t:Str}{a:Nat}{l:List aK} (h:Lx t a l):s.drop a=t→a≤s.length→∀ acc:List aK,acc.length + l.length≤60000 →
    (aI vI (fun x1=>[]) (eY s (a:Int)) fun x1=>bK (fun (x2:(List aK) × Int)=>[(0,vS s),(5,so 0 aF x2.1),(6,vI x2.2)]) (fun (x2:(List aK) × Int)=>[tk x2.1.length 3 53]) (uP s) (acc,x1))=some (acc ++ l,(s.length:Int),0):=by
  induction h with
  | nil a=>
    intro hd ha acc hl
    have hal:s.length≤a:=by have:=congrArg List.length hd; simp at this; omega
    rw [Pt hal,aC]
    refine lY ?_
    unfold uP
    simp only [aQ,aM]
    rw [if_neg (by omega)]
    simp
  | @sp c t a l hc h ih=>
    intro hd ha acc hl
    have g:s[a]?=some c:=by have:=congrArg (·[0]?) hd; simpa [List.getElem?_drop] using this
    have hlt:=(List.getElem?_eq_some_iff.1 g).1
    rw [MV g hs hc]
    exact ih (by rw [← List.drop_drop,hd]; rfl) (by omega) acc hl
  | @run w t a l k hk hw h1 h2 h ih=>
    intro hd ha acc hl
    obtain ⟨c,w',rfl,hc1,hc2⟩:=hw
    have g:s[a]?=some c:=by have:=congrArg (·[0]?) hd; simpa [List.getElem?_drop] using this
    have hlt:=(List.getElem?_eq_some_iff.1 g).1
    rw [Bx g hc1 hc2,aC]
    have hlen:s.length=a + ((c :: w').length + t.length):=by have:=congrArg List.length hd; rw [List.length_drop,List.length_append] at this; omega
    have ih2:=ih (by rw [← List.drop_drop,hd,List.drop_left]) (by omega) (acc ++ [⟨k,a,c :: w'⟩]) (by simp only [List.length_append,List.length_cons,List.length_nil] at hl ⊢; omega)
    rw [List.append_assoc] at ih2
    refine Eq.trans (AY (ob1:=fun _=>[]) ?_) ih2
    have hcut:(s.take (s.length:Int).toNat).drop (a:Int).toNat=c :: w' ++ t:=by simpa using hd
    unfold uP
    simp only [aQ,gI,aM]
    rw [if_pos (by omega),if_neg (by simp only [List.length_cons] at hl; omega),aN (by omega),hcut,h1,aC]
    have hpc:(s.take ((a:Int) + ((c :: w').length:Int)).toNat).drop (a:Int).toNat=c :: w':=by
      rw [Int.toNat_natCast,show ((a:Int) + ((c :: w').length:Int)).toNat=a + (c :: w').length by omega,List.drop_take,hd,show a + (c :: w').length - a=(c :: w').length by omega,List.take_left]
    rcases hk with rfl | rfl
    · rw [if_neg (by decide),if_neg (by decide),if_pos rfl,aN (by omega),h2,aC,aR (by omega),aN (by omega),hpc,aN (by simp only [List.length_cons,List.length_nil] at hl ⊢; omega)]
      rw [show (a:Int) + ((c :: w').length:Int)=((a + (c :: w').length:Nat):Int) by omega]
      rfl
    · rw [if_neg (by decide),if_neg (by decide),if_neg (by decide),if_pos rfl,aN (by omega),h2,aC,aR (by omega),aN (by omega),hpc,aN (by simp only [List.length_cons,List.length_nil] at hl ⊢; omega)]
      rw [show (a:Int) + ((c :: w').length:Int)=((a + (c :: w').length:Nat):Int) by omega]
      rfl
  | @text v t a l h ih=>
    intro hd ha acc hl
    have g:s[a]?=some 34:=by have:=congrArg (·[0]?) hd; simpa [List.getElem?_drop,cN] using this
    have hlt:=(List.getElem?_eq_some_iff.1 g).1
    rw [Bx g (by decide) (by decide),aC]
    have hlen:s.length=a + ((cN v).length + t.length):=by have:=congrArg List.length hd; rw [List.length_drop,List.length_append] at this; omega
    have ih2:=ih (by rw [← List.drop_drop,hd,List.drop_left]) (by omega) (acc ++ [⟨3,a,v⟩]) (by simp only [List.length_append,List.length_cons,List.length_nil] at hl ⊢; omega)
    rw [List.append_assoc] at ih2
    refine Eq.trans (AY (ob1:=fun _=>[]) ?_) ih2
    have hcut:(s.take (s.length:Int).toNat).drop (a:Int).toNat=cN v ++ t:=by simpa using hd
    unfold uP
    simp only [aQ,gI,aM,bE]
    rw [if_pos (by omega),if_neg (by simp only [List.length_cons] at hl; omega),aN (by omega),hcut,KC (t:=cN v ++ t) (by simp [cN]),aC]
    have hqq:(cN v ++ t).length≤1000000:=by rw [List.length_append]; omega
    dsimp only
    rw [if_neg (by decide),if_pos rfl,aN (by omega),Kh v t hqq,aC]
    dsimp only
    rw [if_pos rfl,aN (by simp only [List.length_cons,List.length_nil] at hl ⊢; omega),aR (by omega)]
    rw [show (a:Int) + ((cN v).length:Int)=((a + (cN v).length:Nat):Int) by omega]
    rfl
  | @sign w t a l hw h1 h ih=>
    intro hd ha acc hl
    obtain ⟨c,w',rfl,hc1,hc2⟩:=hw
    have g:s[a]?=some c:=by have:=congrArg (·[0]?) hd; simpa [List.getElem?_drop] using this
    have hlt:=(List.getElem?_eq_some_iff.1 g).1
    rw [Bx g hc1 hc2,aC]
    have hlen:s.length=a + ((c :: w').length + t.length):=by have:=congrArg List.length hd; rw [List.length_drop,List.length_append] at this; omega
    have ih2:=ih (by rw [← List.drop_drop,hd,List.drop_left]) (by omega) (acc ++ [⟨4,a,c :: w'⟩]) (by simp only [List.length_append,List.length_cons,List.length_nil] at hl ⊢; omega)
    rw [List.append_assoc] at ih2
    refine Eq.trans (AY (ob1:=fun _=>[]) ?_) ih2
    have hcut:(s.take (s.length:Int).toNat).drop (a:Int).toNat=(c :: w') ++ t:=by simpa using hd
    unfold uP
    simp only [aQ,gI,aM,bE]
    rw [if_pos (by omega),if_neg (by simp only [List.length_cons] at hl; omega),aN (by omega),hcut,h1,aC]
    have hpc:(s.take ((a:Int) + ((c :: w').length:Int)).toNat).drop (a:Int).toNat=c :: w':=by
      rw [Int.toNat_natCast,show ((a:Int) + ((c :: w').length:Int)).toNat=a + (c :: w').length by omega,List.drop_take,hd,show a + (c :: w').length - a=(c :: w').length by omega,List.take_left]
    dsimp only
    rw [if_neg (by decide),if_neg (by decide),if_neg (by decide),if_neg (by decide),aR (by omega),aN (by omega),hpc,aN (by simp only [List.length_cons,List.length_nil] at hl ⊢; omega)]
    rw [show (a:Int) + ((c :: w').length:Int)=((a + (c :: w').length:Nat):Int) by omega]
    rfl
theorem EV (s:Str) (hs:s.length≤1000000) {l:List aK} (h:Lx s 0 l) (hl:l.length≤60000):lK s=some (l,(s.length:Int),0):=by
  rw [KF]
  have:=Qo s hs h (by simp) (by omega) [] (by simpa using hl)
  simpa using this
end Go.Proofs.YtgkmbhllcekagaaGreatDoor.AM
