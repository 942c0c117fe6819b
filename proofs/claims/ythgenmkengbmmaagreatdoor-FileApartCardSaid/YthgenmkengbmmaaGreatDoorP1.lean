/- P1 -/
import Derived.Test.YthgenmkengbmmaaGreatDoorTy
import Derived.Test.YthgenmkengbmmaaGreatDoorA4
import Derived.Test.YthgenmkengbmmaaGreatDoorX2
import Derived.Test.YthgenmkengbmmaaGreatDoorMd
set_option linter.all false
namespace Go.Proofs.YthgenmkengbmmaaGreatDoor.AM
open Go
theorem BK (a:Str):ltS a a=false:=CN _
theorem uS {a b c:Str} (h:ltS a b=true) (k:ltS b c=true):ltS a c=true:=Fi h k
theorem CQ {a b:Str} (h:ltS a b=false) (k:ltS b a=false):a=b:=EZ h k
theorem HW {a b:Str} (h:ltS a b=true):ltS b a=false:=by
 cases hb:ltS b a
 ·rfl
 ·have:=uS h hb; rw [BK] at this; cases this
theorem Og {a b c:Str} (h:ltS a b=false) (k:ltS b c=false):ltS a c=false:=by
 cases hac:ltS a c
 ·rfl
 ·cases hba:ltS b a
  ·have:=CQ h hba; subst this; rw [hac] at k; cases k
  ·have:=uS hba hac; rw [this] at k; cases k
def pr (l:List aQ) (k:Nat):aQ:=l.getD k default
theorem iL {l:List aQ}{k:Nat} (h:k < l.length):l[k]?=some (pr l k):=by
 rw [pr,List.getD_eq_getElem?_getD,List.getElem?_eq_getElem h]; rfl
def A4 (c:Int):Bool:=(decide (97≤c) && decide (c≤122)) || (decide (65≤c) && decide (c≤90)) || decide (c=95)
def JK (c:Int):Bool:=decide (48≤c) && decide (c≤57)
def Ah (s:Str) (i:Nat):Bool:=A4 (s.getD i 0).toNat || (JK (s.getD i 0).toNat && decide (i ≠ 0))
def cP (s:Str):Bool:=decide (1≤s.length) && decide (s.length≤64) && (List.range s.length).all (Ah s)
theorem W6 {s:Str}{k:Nat} (hk:k < s.length) (h:Ah s k=false):cP s=false:=by
 simp only [cP,Bool.and_eq_false_iff,List.all_eq_false,List.mem_range]
 exact .inr ⟨k,hk,by simp [h]⟩
theorem Wd {s:Str} (h1:1≤s.length) (h2:s.length≤64) (h:∀ i,i < s.length→Ah s i=true):cP s=true:=by
 simp only [cP,h1,h2,decide_true,Bool.true_and,List.all_eq_true,List.mem_range]
 exact h
theorem PK {s:Str} (h:s.length < 1 ∨ 64 < s.length):cP s=false:=by
 simp only [cP,Bool.and_eq_false_iff,decide_eq_false_iff_not]
 omega
def mE (l:List aQ) (i:Nat):Bool:=cP (pr l i).1 && decide ((pr l i).2.length≤64) && (decide (i=0) || ltS (pr l (i - 1)).1 (pr l i).1)
def iY (l:List aQ):Bool:=decide (l.length≤16) && (List.range l.length).all (mE l)
theorem Oo {l:List aQ} (h1:l.length≤16) (h:∀ i,i < l.length→mE l i=true):iY l=true:=by
 simp only [iY,h1,decide_true,Bool.true_and,List.all_eq_true,List.mem_range]
 exact h
theorem Ph {l:List aQ} (h:16 < l.length):iY l=false:=by
 simp only [iY,Bool.and_eq_false_iff,decide_eq_false_iff_not]; left; omega
def S8 (l:List aQ):List aQ:=if iY l then l else []
def M3 (n:Str):List aQ→Str × Bool
 | []=>([],false)
 | p :: l=>if p.1=n then (p.2,true) else M3 n l
def Xt (l:List aQ) (n:Str):Str × Bool:=M3 n (S8 l)
theorem AG {l:List aQ}{k:Nat} (hk:k < l.length):l.drop k=pr l k :: l.drop (k + 1):=by
 have hp:=iL hk
 rw [List.drop_eq_getElem_cons hk]
 congr 1
 rw [List.getElem?_eq_getElem hk] at hp
 exact Option.some.inj hp
theorem R6 {l:List aQ}{k:Nat} (hk:k < l.length):l.take (k + 1)=l.take k ++ [pr l k]:=by
 have hp:=iL hk
 rw [List.take_add_one,hp]; rfl
def Hr (a b:Str):Int:=if ltS a b then -1 else if ltS b a then 1 else 0
theorem BU {a b:Str}:Hr a b < 0 ↔ ltS a b=true:=by
 unfold Hr
 split
 ·simp [*]
 ·split <;> simp [*]
def qZ (p:aQ):Bool:=decide (64 < p.2.length)
def l8:List aQ→Bool
 | []=>false
 | p :: l=>l.any (fun q=>decide (q.1=p.1)) || l8 l
def Ft (p:aQ):List aQ→List aQ
 | []=>[p]
 | q :: l=>if ltS p.1 q.1 then p :: q :: l else q :: Ft p l
def o9:List aQ→List aQ
 | []=>[]
 | p :: l=>Ft p (o9 l)
def p5 (l:List aQ):Int :=
 if 16 < l.length then 4 else if l.any qZ then 4 else if l.all (fun p=>cP p.1) then (if l8 l then 6 else 0) else 7
def gT (l:List aQ):List aQ × Int:=if p5 l=0 then (o9 l,0) else ([],p5 l)
theorem CJ (p:aQ):∀ l,(Ft p l).Perm (p :: l)
 | []=>.refl _
 | q :: l=>by
  unfold Ft
  split
  ·exact .refl _
  ·exact ((CJ p l).cons q).trans (.swap p q l)
theorem wW:∀ l,(o9 l).Perm l
 | []=>.refl _
 | p :: l=>(CJ p _).trans ((wW l).cons p)
def Asc (l:List aQ):Prop:=l.Pairwise (fun p q=>ltS q.1 p.1=false)
theorem Kb (p:aQ):∀ {l:List aQ},Asc l→Asc (Ft p l)
 | [],_=>by simp [Ft,Asc]
 | q :: l,h=>by
  obtain ⟨h1,h2⟩:=List.pairwise_cons.1 h
  unfold Ft
  split
  ·rename_i hl
   refine List.pairwise_cons.2 ⟨?_,h⟩
   intro r hr
   rcases List.mem_cons.1 hr with rfl | hr
   ·exact HW hl
   ·have:=h1 r hr
    cases hc:ltS r.1 p.1
    ·rfl
    ·have:=uS hc hl; rw [h1 r hr] at this; cases this
  ·rename_i hl
   refine List.pairwise_cons.2 ⟨?_,Kb p h2⟩
   intro r hr
   rcases List.mem_cons.1 ((CJ p l).mem_iff.1 hr) with rfl | hr
   ·simpa using hl
   ·exact h1 r hr
theorem CB:∀ l,Asc (o9 l)
 | []=>.nil
 | p :: l=>Kb p (CB l)
theorem z6:∀ {l:List aQ},l8 l=false→(l.map (·.1)).Nodup
 | [],_=>.nil
 | p :: l,h=>by
  simp only [l8,Bool.or_eq_false_iff,List.any_eq_false,decide_eq_true_eq] at h
  simp only [List.map_cons,List.nodup_cons,List.mem_map,not_exists,not_and]
  exact ⟨fun q hq=>h.1 q hq,z6 h.2⟩
theorem GC:∀ {l m:List aQ},Asc l→Asc m→l.Perm m→(l.map (·.1)).Nodup→l=m
 | [],m,_,_,h,_=>(List.nil_perm.1 h).symm
 | p :: l,[],_,_,h,_=>absurd h.length_eq (by simp)
 | p :: l,q :: m,h1,h2,h3,h4=>by
  obtain ⟨a1,a2⟩:=List.pairwise_cons.1 h1
  obtain ⟨b1,b2⟩:=List.pairwise_cons.1 h2
  have hpq:p=q:=by
   have hp:p ∈ q :: m:=h3.mem_iff.1 List.mem_cons_self
   have hq:q ∈ p :: l:=h3.mem_iff.2 List.mem_cons_self
   rcases List.mem_cons.1 hp with h | hp
   ·exact h
   rcases List.mem_cons.1 hq with h | hq
   ·exact h.symm
   have e:=CQ (a1 q hq) (b1 p hp)
   have hn:=(List.nodup_cons.1 h4).1
   exact (hn (List.mem_map.2 ⟨q,hq,e⟩)).elim
  subst hpq
  rw [GC a2 b2 (h3.cons_inv) (List.nodup_cons.1 h4).2]
theorem Js {l m:List aQ} (h:l8 l=false) (hp:m.Perm l) (ha:Asc m):m=o9 l :=
 GC ha (CB l) (hp.trans (wW l).symm) ((hp.map (·.1)).nodup_iff.2 (z6 h))
theorem Nb {l:List aQ}{k:Nat} (hk:k < l.length) (h:(l.take k).any (fun q=>decide (q.1=(pr l k).1))=true):l8 l=true:=by
 induction l generalizing k with
 | nil=>simp at hk
 | cons p l ih=>
  cases k with
  | zero=>simp at h
  | succ k=>
   have hp:pr (p :: l) (k + 1)=pr l k:=rfl
   rw [hp] at h
   simp only [List.take_succ_cons,List.any_cons,Bool.or_eq_true,decide_eq_true_eq] at h
   simp only [l8,Bool.or_eq_true,List.any_eq_true,decide_eq_true_eq]
   simp only [List.length_cons] at hk
   rcases h with h | h
   ·left; exact ⟨pr l k,List.mem_of_getElem? (iL (by omega)),h.symm⟩
   ·right; exact ih (by omega) h
theorem N8 {l:List aQ} (h:∀ k,k < l.length→(l.take k).any (fun q=>decide (q.1=(pr l k).1))=false):l8 l=false:=by
 induction l with
 | nil=>rfl
 | cons p l ih=>
  simp only [l8,Bool.or_eq_false_iff]
  constructor
  ·rw [List.any_eq_false]
   intro q hq
   obtain ⟨j,hj,rfl⟩:=List.mem_iff_getElem.1 hq
   have:=h (j + 1) (by simp; omega)
   simp only [List.take_succ_cons,List.any_cons,Bool.or_eq_false_iff] at this
   have e:pr (p :: l) (j + 1)=l[j]:=by
    have:=iL (l:=p :: l) (k:=j + 1) (by simp; omega)
    simp only [List.getElem?_cons_succ,List.getElem?_eq_getElem hj] at this
    exact (Option.some.inj this).symm
   rw [e] at this
   simp only [decide_eq_true_eq,decide_eq_false_iff_not] at this ⊢
   exact fun e=>this.1 e.symm
  ·refine ih fun k hk=>?_
   have:=h (k + 1) (by simp; omega)
   simp only [List.take_succ_cons,List.any_cons,Bool.or_eq_false_iff] at this
   exact this.2
theorem Lt {l:List aQ}{e:Int} (h:p5 l=e) (he:e ≠ 0):gT l=([],e):=by rw [gT,h,if_neg he]
theorem Q9 {l:List aQ} (h:p5 l=0):gT l=(o9 l,0):=by rw [gT,if_pos h]
def Rh (l:List aQ):Nat→Int
 | 0=>0
 | k + 1=>IntKind.i64.wrap (IntKind.i64.wrap (Rh l k + (pr l k).1.length) + (pr l k).2.length)
def K9 (l:List aQ):Bool:=decide (l.length≤40) && decide (Rh l l.length≤3000)
theorem Qv {l:List aQ} (h:K9 l=true):l.length≤40:=by
 simp only [K9,Bool.and_eq_true,decide_eq_true_eq] at h; exact h.1
structure xK (l:List aQ):Prop where
 len:l.length≤16
 short:∀ p ∈ l,qZ p=false
 name:∀ p ∈ l,cP p.1=true
 once:l8 l=false
theorem EG {l:List aQ}:p5 l=0 ↔ xK l:=by
 unfold p5
 constructor
 ·intro h
  split at h
  ·cases h
  ·rename_i h1
   split at h
   ·cases h
   ·rename_i h2
    split at h
    ·rename_i h3
     split at h
     ·cases h
     ·rename_i h4
      exact ⟨by omega,by simpa using h2,by simpa using h3,by simpa using h4⟩
    ·cases h
 ·rintro ⟨h1,h2,h3,h4⟩
  rw [if_neg (by omega),if_neg (by simpa using h2),if_pos (by simpa using h3),if_neg (by simp [h4])]
theorem zP {l:List aQ}:l8 l=false ↔ (l.map (·.1)).Nodup:=by
 constructor
 ·exact z6
 ·intro h
  induction l with
  | nil=>rfl
  | cons p l ih=>
   obtain ⟨h1,h2⟩:=List.nodup_cons.1 h
   simp only [l8,Bool.or_eq_false_iff,List.any_eq_false,decide_eq_true_eq]
   exact ⟨fun q hq e=>h1 (List.mem_map.2 ⟨q,hq,e⟩),ih h2⟩
theorem xK.perm {l m:List aQ} (h:xK l) (hp:m.Perm l):xK m :=
 ⟨by rw [hp.length_eq]; exact h.len,fun p hm=>h.short p (hp.mem_iff.1 hm),fun p hm=>h.name p (hp.mem_iff.1 hm),
  zP.2 (((hp.map (·.1)).nodup_iff).2 (zP.1 h.once))⟩
theorem F5 {l:List aQ} (h:xK l):gT l=(o9 l,0):=Q9 (EG.2 h)
theorem Le {l:List aQ} (h:xK l) (ha:Asc l):o9 l=l:=(Js h.once (.refl l) ha).symm
theorem uR {l:List aQ}:iY l=true ↔ l.length≤16∧(∀ p ∈ l,cP p.1=true)∧(∀ p ∈ l,p.2.length≤64)∧l.Pairwise (fun p q=>ltS p.1 q.1=true):=by
 have hpr:∀ p ∈ l,∃ i,i < l.length∧pr l i=p:=by
  intro p hp
  obtain ⟨i,hi,rfl⟩:=List.mem_iff_getElem.1 hp
  have e:=iL hi
  rw [List.getElem?_eq_getElem hi] at e
  exact ⟨i,hi,(Option.some.inj e).symm⟩
 constructor
 ·intro h
  simp only [iY,Bool.and_eq_true,decide_eq_true_eq,List.all_eq_true,List.mem_range] at h
  obtain ⟨h1,h2⟩:=h
  have h3:∀ i,i < l.length→cP (pr l i).1=true∧(pr l i).2.length≤64∧(i=0 ∨ ltS (pr l (i - 1)).1 (pr l i).1=true):=by
   intro i hi
   have:=h2 i hi
   simp only [mE,Bool.and_eq_true,decide_eq_true_eq,Bool.or_eq_true] at this
   exact ⟨this.1.1,this.1.2,this.2⟩
  refine ⟨h1,?_,?_,?_⟩
  ·intro p hp; obtain ⟨i,hi,rfl⟩:=hpr p hp; exact (h3 i hi).1
  ·intro p hp; obtain ⟨i,hi,rfl⟩:=hpr p hp; exact (h3 i hi).2.1
  ·rw [List.pairwise_iff_getElem]
   have key:∀ (d i:Nat),i + d + 1 < l.length→ltS (pr l i).1 (pr l (i + d + 1)).1=true:=by
    intro d
    induction d with
    | zero=>
     intro i hi
     rcases (h3 (i + 0 + 1) hi).2.2 with h | h
     ·omega
     ·simpa using h
    | succ d ih=>
     intro i hi
     have a:=ih i (by omega)
     rcases (h3 (i + (d + 1) + 1) hi).2.2 with h | h
     ·omega
     ·exact uS a (by simpa [Nat.add_assoc] using h)
   intro i j hi hj hij
   have e1:=iL hi
   have e2:=iL hj
   rw [List.getElem?_eq_getElem hi] at e1
   rw [List.getElem?_eq_getElem hj] at e2
   rw [Option.some.inj e1,Option.some.inj e2]
   have:=key (j - i - 1) i (by omega)
   rwa [show i + (j - i - 1) + 1=j from by omega] at this
 ·rintro ⟨h1,h2,h3,h4⟩
  refine Oo h1 fun i hi=>?_
  have hm:pr l i ∈ l:=List.mem_of_getElem? (iL hi)
  simp only [mE,h2 _ hm,h3 _ hm,decide_true,Bool.true_and,Bool.or_eq_true,decide_eq_true_eq]
  rcases Nat.eq_zero_or_pos i with h | h
  ·exact .inl h
  ·right
   have:=List.pairwise_iff_getElem.1 h4 (i - 1) i (by omega) hi (by omega)
   have e1:=iL (l:=l) (k:=i - 1) (by omega)
   have e2:=iL hi
   rw [List.getElem?_eq_getElem (by omega)] at e1
   rw [List.getElem?_eq_getElem hi] at e2
   rw [Option.some.inj e1,Option.some.inj e2] at this
   exact this
theorem ED {l:List aQ} (h:iY l=true):xK l∧Asc l:=by
 obtain ⟨h1,h2,h3,h4⟩:=uR.1 h
 refine ⟨⟨h1,fun p hp=>by have:=h3 p hp; simp only [qZ,decide_eq_false_iff_not]; omega,h2,zP.2 ?_⟩,h4.imp fun h=>HW h⟩
 rw [List.Nodup,List.pairwise_map]
 exact h4.imp fun {a b} hab he=>by rw [he,BK] at hab; cases hab
theorem Ki {l:List aQ} (h:xK l) (ha:Asc l):iY l=true:=by
 refine uR.2 ⟨h.len,h.name,fun p hp=>by have:=h.short p hp; simp only [qZ,decide_eq_false_iff_not] at this; omega,?_⟩
 have hn:=zP.1 h.once
 rw [List.Nodup,List.pairwise_map] at hn
 refine (ha.and hn).imp ?_
 rintro a b ⟨h1,h2⟩
 cases hc:ltS a.1 b.1
 ·exact (h2 (CQ hc h1)).elim
 ·rfl
theorem NA {l:List aQ} (h:xK l):iY (o9 l)=true:=Ki (h.perm (wW l)) (CB l)
theorem Pq {l:List aQ} (h:¬ xK l):(gT l).1=[]∧(gT l).2 ≠ 0∧iY l=false:=by
 have hw:p5 l ≠ 0:=fun e=>h (EG.1 e)
 rw [Lt rfl hw]
 refine ⟨rfl,hw,?_⟩
 cases hs:iY l
 ·rfl
 ·exact (h (ED hs).1).elim
section
variable {α β σ:Type}
@[simp] theorem aZ (enc:α→AV) (e:α) (m:α→Option β):aA enc e m=m e:=rfl
@[simp] theorem fY (enc:α→AV) (ob:α→List Obj) (e:α) (m:α→Option β):eU enc ob e m=m e:=rfl
@[simp] theorem bL (x:β):aH x=some x:=rfl
@[simp] theorem DN (a b c:Nat) (m:Option β):JL a b c m=m:=rfl
@[simp] theorem OO (a:Nat) (m:Option β):shM a m=m:=rfl
@[simp] theorem OT (a:Nat) (m:Option β):KE a m=m:=rfl
@[simp] theorem QU (a:Nat) (m:Option β):Nk a m=m:=rfl
@[simp] theorem G5 (m:Option β):JG m=m:=rfl
@[simp] theorem i7 (m:Option β):jF m=m:=rfl
@[simp] theorem aY (x y:Option β):aG true x y=x:=rfl
@[simp] theorem a6 (x y:Option β):aG false x y=y:=rfl
theorem SW (b:Bool) (x y:Option β):aG b x y=if b=true then x else y:=rfl
@[simp] theorem aV (p:Prop) [Decidable p] (x y:Option β):aG (decide p) x y=if p then x else y:=by
 unfold aG; by_cases h:p <;> simp [h]
@[simp] theorem bK (b:Bool) (x y:Option β):aG (!b) x y=aG b y x:=by cases b <;> rfl
@[simp] theorem aD (enc:α→AV) (ob:α→List Obj) (a:α) (m:α→Option β):aN enc ob (some a) m=m a:=rfl
@[simp] theorem wM (r:β):a8 (σ:=σ) (some r)=some (.inr r):=rfl
@[simp] theorem xS (x:σ):bE (β:=β) x=some (.inl x):=rfl
@[simp] theorem QH (ph:σ→List (Nat × AV)) (ob:σ→List Obj) (rest:σ→Option β) (m:Option (σ ⊕ β)):BQ ph ob rest m=m.bind (Sum.elim rest some):=rfl
theorem aP {p:Prop} [Decidable p] (h:p) (m:Option β):gdM p m=m:=if_pos h
theorem bB {l:List α}{i:Nat}{x:α} (h:l[i]?=some x) (m:α→Option β):bS l (i:Int) m=m x:=by
 unfold bS; rw [if_pos (by omega),Int.toNat_natCast,h]; rfl
theorem iP {l:List α}{i:Int}{x:α} (h0:0≤i) (h:l[i.toNat]?=some x) (m:α→Option β):bS l i m=m x:=by
 unfold bS; rw [if_pos h0,h]; rfl
theorem bF {x:Int} (h:-9223372036854775808≤x∧x≤9223372036854775807):wI x=x:=IntWalk.i64_in x h
theorem eN {ph:σ→List (Nat × AV)}{ob:σ→List Obj}{step:σ→Option (σ ⊕ β)} (I:σ→Prop) (μ:σ→Nat) (F:σ→β)
  (h:∀ s,I s→step s=some (.inr (F s)) ∨ ∃ s',step s=some (.inl s')∧I s'∧μ s' < μ s∧F s'=F s) {s:σ} (hs:I s):bU ph ob step s=some (F s):=Rg I μ F h s hs
theorem fV {ph:Int→List (Nat × AV)}{ob:Int→List Obj}{step:Int→Option (Int ⊕ β)} (n:Nat) (F:Nat→β)
  (h1:∀ i,i < n→step (i:Int)=some (.inr (F i)) ∨ (step (i:Int)=some (.inl ((i + 1:Nat):Int))∧F (i + 1)=F i)) (h2:step (n:Int)=some (.inr (F n))):bU ph ob step 0=some (F 0):=by
 have:=eN (ph:=ph) (ob:=ob) (step:=step) (fun i:Int=>0≤i∧i≤n) (fun i=>(n - i).toNat) (fun i=>F i.toNat) (by
  rintro i ⟨h0,hn⟩
  obtain ⟨k,rfl⟩:=Int.eq_ofNat_of_zero_le h0
  rcases Nat.lt_or_ge k n with hk | hk
  ·rcases h1 k hk with h | ⟨h,he⟩
   ·exact .inl (by simpa using h)
   ·exact .inr ⟨_,h,⟨by omega,by omega⟩,by omega,by simp only [Int.toNat_natCast]; exact he⟩
  ·have:k=n:=by omega
   subst this
   exact .inl (by simpa using h2)) (s:=0) ⟨by omega,by omega⟩
 simpa using this
theorem OI {A:Type}{ph:Int × A→List (Nat × AV)}{ob:Int × A→List Obj}{step:Int × A→Option (Int × A ⊕ β)} (n:Nat) (J:Nat→A→Prop) (F:Nat→A→β)
  (h1:∀ i a,i < n→J i a→step ((i:Int),a)=some (.inr (F i a)) ∨ ∃ a',step ((i:Int),a)=some (.inl (((i + 1:Nat):Int),a'))∧J (i + 1) a'∧F (i + 1) a'=F i a) (h2:∀ a,J n a→step ((n:Int),a)=some (.inr (F n a))) {a:A} (h0:J 0 a):bU ph ob step (0,a)=some (F 0 a):=by
 have:=eN (ph:=ph) (ob:=ob) (step:=step) (fun s:Int × A=>(0≤s.1∧s.1≤n)∧J s.1.toNat s.2) (fun s=>(n - s.1).toNat) (fun s=>F s.1.toNat s.2) (by
  rintro ⟨i,a⟩ ⟨⟨h0,hn⟩,hj⟩
  simp only at h0 hn hj
  obtain ⟨k,rfl⟩:=Int.eq_ofNat_of_zero_le h0
  simp only [Int.toNat_natCast] at hj ⊢
  rcases Nat.lt_or_ge k n with hk | hk
  ·rcases h1 k a hk hj with h | ⟨a',h,hj',he⟩
   ·exact .inl h
   ·exact .inr ⟨_,h,⟨⟨by simp only; omega,by simp only; omega⟩,by simpa using hj'⟩,by simp only; omega,by simpa using he⟩
  ·have:k=n:=by omega
   subst this
   exact .inl (h2 a hj)) (s:=(0,a)) ⟨⟨by simp,by simp⟩,by simpa using h0⟩
 simpa using this
theorem lJ {A:Type}{ph:A × Int→List (Nat × AV)}{ob:A × Int→List Obj}{step:A × Int→Option (A × Int ⊕ β)} (n:Nat) (J:Nat→A→Prop) (F:Nat→A→β)
  (h1:∀ i a,i < n→J i a→step (a,(i:Int))=some (.inr (F i a)) ∨ ∃ a',step (a,(i:Int))=some (.inl (a',((i + 1:Nat):Int)))∧J (i + 1) a'∧F (i + 1) a'=F i a) (h2:∀ a,J n a→step (a,(n:Int))=some (.inr (F n a))) {a:A} (h0:J 0 a):bU ph ob step (a,0)=some (F 0 a):=by
 have:=eN (ph:=ph) (ob:=ob) (step:=step) (fun s:A × Int=>(0≤s.2∧s.2≤n)∧J s.2.toNat s.1) (fun s=>(n - s.2).toNat) (fun s=>F s.2.toNat s.1) (by
  rintro ⟨a,i⟩ ⟨⟨h0,hn⟩,hj⟩
  simp only at h0 hn hj
  obtain ⟨k,rfl⟩:=Int.eq_ofNat_of_zero_le h0
  simp only [Int.toNat_natCast] at hj ⊢
  rcases Nat.lt_or_ge k n with hk | hk
  ·rcases h1 k a hk hj with h | ⟨a',h,hj',he⟩
   ·exact .inl h
   ·exact .inr ⟨_,h,⟨⟨by simp only; omega,by simp only; omega⟩,by simpa using hj'⟩,by simp only; omega,by simpa using he⟩
  ·have:k=n:=by omega
   subst this
   exact .inl (h2 a hj)) (s:=(a,0)) ⟨⟨by simp,by simp⟩,by simpa using h0⟩
 simpa using this
end
theorem Sx {s:Str}{k:Nat} (h:k < s.length):s[k]?=some (s.getD k 0):=by
 rw [List.getD_eq_getElem?_getD,List.getElem?_eq_getElem h]; rfl
theorem u4 (a b:Bool):(bif a then true else b)=(a || b):=by cases a <;> rfl
theorem jV (a b:Bool):(bif a then b else false)=(a && b):=by cases a <;> rfl
theorem iU (s:Str):fG s=some (cP s):=by
 unfold fG
 simp only [aZ,u4,jV]
 by_cases h:s.length < 1 ∨ 64 < s.length
 ·rw [show (decide ((s.length:Int) < 1) || decide ((64:Int) < s.length))=true from by simp; omega]
  simp [PK h]
 ·rw [show (decide ((s.length:Int) < 1) || decide ((64:Int) < s.length))=false from by simp; omega]
  simp only [a6]
  refine (fV s.length (fun i=>(List.range s.length).all fun j=>decide (j < i) || Ah s j) ?_ ?_).trans ?_
  rotate_right
  ·congr 1
   rw [cP,decide_eq_true (show 1≤s.length by omega),decide_eq_true (show s.length≤64 by omega)]
   simp
  ·intro i hi
   simp only [aV,bB (Sx hi)]
   rw [if_pos (by omega)]
   have e:((!((decide ((97:Int)≤((s.getD i 0).toNat:Int)) && decide (((s.getD i 0).toNat:Int)≤122) || (decide ((65:Int)≤((s.getD i 0).toNat:Int)) && decide (((s.getD i 0).toNat:Int)≤90))) || decide (((s.getD i 0).toNat:Int)=95))) && ((!(decide ((48:Int)≤((s.getD i 0).toNat:Int)) && decide (((s.getD i 0).toNat:Int)≤57))) || decide ((i:Int)=0)))=!Ah s i:=by
    simp only [Ah,A4,JK]
    rw [show decide ((i:Int)=0)=!decide (i ≠ 0) from by by_cases h:i=0 <;> simp [h]]
    simp [Bool.not_or,Bool.not_and]
   rw [e,bK]
   cases ho:Ah s i
   ·left
    simp only [a6,bL,wM,Option.some.injEq,Sum.inr.injEq]
    symm
    rw [List.all_eq_false]
    exact ⟨i,List.mem_range.2 hi,by simp [ho]⟩
   ·right
    rw [bF (by omega)]
    refine ⟨by simp,?_⟩
    congr 1
    funext j
    by_cases hj:j=i
    ·subst hj; simp [ho]
    ·rw [show decide (j < i + 1)=decide (j < i) from by rw [decide_eq_decide]; omega]
  ·simp only [aV]
   rw [if_neg (by omega)]
   simp only [bL,wM,Option.some.injEq,Sum.inr.injEq]
   symm
   rw [List.all_eq_true]
   intro j hj
   rw [List.mem_range] at hj
   simp [hj]
theorem Px {n:Nat}{f:Nat→Bool}{i:Nat} (h:f i=true):((List.range n).all fun j=>decide (j < i + 1) || f j)=((List.range n).all fun j=>decide (j < i) || f j):=by
 congr 1
 funext j
 by_cases hj:j=i
 ·subst hj; simp [h]
 ·rw [show decide (j < i + 1)=decide (j < i) from by rw [decide_eq_decide]; omega]
theorem Hs {n:Nat}{f:Nat→Bool}{i:Nat} (hi:i < n) (h:f i=false):((List.range n).all fun j=>decide (j < i) || f j)=false:=by
 rw [List.all_eq_false]; exact ⟨i,List.mem_range.2 hi,by simp [h]⟩
theorem SJ {n:Nat}{f:Nat→Bool}:((List.range n).all fun j=>decide (j < n) || f j)=true:=by
 rw [List.all_eq_true]; intro j hj; rw [List.mem_range] at hj; simp [hj]
theorem Rj {n:Nat}{f:Nat→Bool}:((List.range n).all fun j=>decide (j < 0) || f j)=(List.range n).all f:=by simp
theorem I1 (l:List aQ):rZ l=some (iY l):=by
 unfold rZ
 simp only [aZ,aV]
 by_cases h:16 < l.length
 ·rw [if_pos (by omega),Ph h]; rfl
 ·rw [if_neg (by omega)]
  refine (fV l.length (fun i=>(List.range l.length).all fun j=>decide (j < i) || mE l j) ?_ ?_).trans ?_
  rotate_right
  ·rw [Rj,iY,decide_eq_true (by omega)]; rfl
  ·intro i hi
   simp only [aV,bB (iL hi),iU,aD,bK]
   rw [if_pos (by omega)]
   cases h1:cP (pr l i).1
   ·left; simp [Hs hi (show mE l i=false by simp [mE,h1])]
   ·simp only [aY]
    by_cases h2:64 < (pr l i).2.length
    ·left; rw [if_pos (by omega)]
     simp [Hs hi (show mE l i=false by simp [mE,h1]; omega)]
    ·rw [if_neg (by omega)]
     by_cases h3:i=0
     ·subst h3
      right
      rw [if_neg (by omega),bF (by omega)]
      exact ⟨by simp,Px (by simp [mE,h1]; omega)⟩
     ·rw [if_pos (by omega),bF (by omega),iP (x:=pr l (i - 1)) (by omega) (by rw [show ((i:Int) - 1).toNat=i - 1 from by omega]; exact iL (by omega))]
      cases h4:ltS (pr l (i - 1)).1 (pr l i).1
      ·left; simp [Hs hi (show mE l i=false by simp [mE,h1,h3,h4]),h4]
      ·right
       rw [bF (by omega)]
       exact ⟨by simp,Px (by simp [mE,h1,h3,h4]; omega)⟩
  ·rw [if_neg (by omega)]
   simp [SJ]
theorem Ui (a b:Str):jJ a b=some (Hr a b):=by
 unfold jJ kL Hr
 simp only [aZ,bL,decide_true,Bool.not_true,aD,a6,SW,Bool.false_eq_true,if_false]
 split
 ·rfl
 ·split <;> rfl
theorem FK (p q:aQ):n7 p q=some (Hr p.1 q.1):=by
 unfold n7; rw [Ui]; rfl
theorem Rc (l:List aQ) (h:l.length≤1000):gP l=some l:=by
 unfold gP
 simp only [fY,bL,List.nil_append,G5]
 rw [aP (by simp; omega)]
 unfold KK
 rw [if_pos (by rintro rfl; rfl)]
def Bw (l:List aQ):List (Str × Bool):=l.map fun p=>(p.1,true)
theorem JN (n:Str):∀ l:List aQ,(mlk (Bw l) n).getD false=l.any (fun q=>decide (q.1=n))
 | []=>rfl
 | p :: l=>by
  have ih:=JN n l
  simp only [Bw,List.map_cons,mlk,List.any_cons] at ih ⊢
  by_cases h:n=p.1
  ·simp [h]
  ·have e:decide (p.Name=n)=false:=by simp; exact fun e=>h e.symm
   rw [if_neg h,ih,e,Bool.false_or]
theorem Kj {p:aQ}:∀ {l:List aQ},l.any (fun q=>decide (q.1=p.1))=false→mst (Bw l) p.1 true=Bw (l ++ [p])
 | [],_=>rfl
 | q :: l,h=>by
  simp only [List.any_cons,Bool.or_eq_false_iff,decide_eq_false_iff_not] at h
  have ih:=Kj (p:=p) h.2
  simp only [Bw,List.map_cons,mst,List.cons_append] at ih ⊢
  rw [if_neg (fun e=>h.1 e.symm),ih]
theorem IJ (l:List aQ):rS l=some (gT l):=by
 unfold rS
 simp only [aZ,aV]
 by_cases h16:16 < l.length
 ·rw [if_pos (by omega),Lt (e:=4) (by rw [p5,if_pos h16]) (by decide)]; rfl
 rw [if_neg (by omega)]
 have fin:∀ (i:Nat),i≤l.length→True:=fun _ _=>trivial
 refine (fV l.length (fun i=>if (l.drop i).any qZ then ([],4) else if l.all (fun p=>cP p.1) then (if l8 l then ([],6) else (o9 l,0)) else ([],7)) ?_ ?_).trans ?_
 ·intro i hi
  simp only [aV,bB (iL hi)]
  rw [if_pos (by omega),AG hi]
  by_cases ht:64 < (pr l i).2.length
  ·left; rw [if_pos (by omega)]; simp [qZ,ht]
  ·right; rw [if_neg (by omega),bF (by omega)]
   refine ⟨by simp,?_⟩
   have:qZ (pr l i)=false:=by simp only [qZ,decide_eq_false_iff_not]; omega
   simp [this]
 ·try simp only [aV]
  rw [if_neg (by omega)]
  simp only [List.drop_length,List.any_nil,Bool.false_eq_true,if_false]
  rw [fV l.length (fun i=>if (l.drop i).all (fun p=>cP p.1) then (if l8 l then ([],6) else (o9 l,0)) else ([],7)) ?_ ?_]
  ·rfl
  ·intro i hi
   simp only [aV,bB (iL hi),iU,aD,bK]
   rw [if_pos (by omega),AG hi]
   cases hn:cP (pr l i).1
   ·left; simp [hn]
   ·right; rw [bF (by omega)]
    exact ⟨by simp,by simp [hn]⟩
  ·try simp only [aV]
   rw [if_neg (by omega)]
   simp only [List.drop_length,List.all_nil,if_true,fY]
   rw [lJ l.length (fun i m=>m=Bw (l.take i)∧∀ j,j < i→(l.take j).any (fun q=>decide (q.1=(pr l j).1))=false) (fun _ _=>if l8 l then ([],6) else (o9 l,0)) ?_ ?_ ⟨by simp [Bw],fun j hj=>by omega⟩]
   ·rfl
   ·rintro i m hi ⟨rfl,hj⟩
    simp only [aV,bB (iL hi),fY,JN]
    rw [if_pos (by omega)]
    cases hs:(l.take i).any (fun q=>decide (q.1=(pr l i).1))
    ·right
     rw [bF (by omega),a6,Kj hs,← R6 hi]
     refine ⟨_,by simp,⟨rfl,fun j hj'=>?_⟩,trivial⟩
     by_cases e:j=i
     ·subst e; exact hs
     ·exact hj j (by omega)
    ·left
     rw [Nb hi hs]
     rfl
   ·rintro m ⟨rfl,hj⟩
    simp only [aV,OT,QU]
    rw [if_neg (by omega),Rc l (by omega),aD]
    have htw:l8 l=false:=N8 hj
    rw [QD (y:=(o9 l,0)) (fun p q=>Hr p.1 q.1) ⟨fun p _ q _=>FK p q,fun p _=>by rw [BU,BK]; simp,fun p _ q _ r _ h1 h2=>by rw [BU] at *; exact uS h1 h2,fun p _ q _ r _ h1 h2=>by rw [BU] at *; rw [Bool.not_eq_true] at *; exact Og h1 h2,by omega⟩ ?_]
    ·simp [htw]
    ·intro l' hp hs
     rw [Js htw hp (hs.imp fun {a b} hab=>by rw [BU] at hab; simpa using hab)]
     rfl
 ·simp only [List.drop_zero,gT,p5,h16,if_false,Option.some.injEq]
  split
  ·rfl
  ·split
   ·split <;> simp
   ·simp
theorem IK (a b:List aQ) (h:a.length≤9223372036854775807):sP a b=some (decide (a=b)):=by
 unfold sP
 simp only [aZ,bK,aV]
 by_cases hl:a.length=b.length
 ·rw [if_pos (by omega)]
  refine (fV a.length (fun i=>decide (a.drop i=b.drop i)) ?_ ?_).trans (by simp)
  ·intro i hi
   simp only [aV,bB (iL hi),bK]
   rw [if_pos (by omega),bB (iL (l:=b) (by omega)),AG hi,AG (l:=b) (by omega)]
   by_cases e:pr a i=pr b i
   ·right
    rw [e]
    rw [bF (by omega)]
    exact ⟨by simp,by simp⟩
   ·left
    rw [show (decide ((pr a i).Name=(pr b i).Name) && (decide ((pr a i).Value=(pr b i).Value) && true))=false from by
     rw [Bool.eq_false_iff]; intro h; simp at h; exact e (by cases hp:pr a i; cases hq:pr b i; rw [hp,hq] at h; simp at h; simp [h])]
    simp [e]
  ·try simp only [aV]
   rw [if_neg (by omega)]
   simp [hl]
 ·rw [if_neg (by omega)]
  have:a ≠ b:=by rintro rfl; exact hl rfl
  simp [this]
theorem Jp (l:List aQ) (h:l.length≤9223372036854775807):vH l=some (K9 l):=by
 unfold vH
 simp only [aZ]
 refine (lJ l.length (fun i a=>a=Rh l i) (fun _ _=>K9 l) ?_ ?_ rfl).trans rfl
 ·rintro i a hi rfl
  right
  simp only [aV,bB (iL hi)]
  rw [if_pos (by omega),bF (x:=(i:Int) + 1) (by omega)]
  exact ⟨_,by simp; rfl,rfl,trivial⟩
 ·rintro a rfl
  simp only [aV,jV]
  rw [if_neg (by omega),K9,show decide ((l.length:Int)≤40)=decide (l.length≤40) from by rw [decide_eq_decide]; omega]
  rfl
def Sml (l:List aQ):Prop:=l.length≤100000000∧∀ p ∈ l,p.1.length≤9223372036854775807
theorem Sml.len {l:List aQ} (h:Sml l):l.length≤9223372036854775807:=by have:=h.1; omega
end Go.Proofs.YthgenmkengbmmaaGreatDoor.AM
namespace Go.Proofs.YthgenmkengbmmaaGreatDoor.AM

open Go
end Go.Proofs.YthgenmkengbmmaaGreatDoor.AM
namespace Go.Proofs.YthgenmkengbmmaaGreatDoor.AM
open Go
theorem wB {σ β:Type}{ph:σ→List (Nat × AV)}{ob:σ→List Obj}{step:σ→Option (σ ⊕ β)} (I:σ→Prop) (μ:σ→Nat) (Q:β→Prop)
  (h:∀ s,I s→(∃ r,step s=some (.inr r)∧Q r) ∨ ∃ s',step s=some (.inl s')∧I s'∧μ s' < μ s):∀ {s:σ},I s→∃ r,bU ph ob step s=some r∧Q r:=by
 have key:∀ n s,μ s=n→I s→∃ r,bU ph ob step s=some r∧Q r:=by
  intro n
  induction n using Nat.strongRecOn with
  | ind n ih=>
   intro s hn hs
   unfold bU
   rw [AF]
   rcases h s hs with ⟨r,e,hq⟩ | ⟨s',e,hi,hm⟩
   ·exact ⟨r,by rw [e]; rfl,hq⟩
   ·obtain ⟨r,e2,hq⟩:=ih (μ s') (by omega) s' rfl hi
    exact ⟨r,by rw [e]; exact e2,hq⟩
 intro s hs
 exact key _ s rfl hs
section
variable {α:Type} [Inhabited α]
def nth (l:List α) (k:Nat):α:=l.getD k default
theorem bO {l:List α}{k:Nat} (h:k < l.length):l[k]?=some (nth l k):=by
 rw [nth,List.getD_eq_getElem?_getD,List.getElem?_eq_getElem h]; rfl
theorem fN {l:List α}{k:Nat} (h:k < l.length):nth l k ∈ l:=by
 rw [nth,List.getD_eq_getElem?_getD,List.getElem?_eq_getElem h]; exact List.getElem_mem h
theorem dY {l:List α}{k:Nat} (hk:k < l.length):l.drop k=nth l k :: l.drop (k + 1):=by
 have hp:=bO hk
 rw [List.drop_eq_getElem_cons hk]
 congr 1
 rw [List.getElem?_eq_getElem hk] at hp
 exact Option.some.inj hp
end
def qV (v:Int):Bool:=decide (-9007199254740992≤v) && decide (v≤9007199254740992)
theorem Av (v:Int):oC v=some (qV v):=by
 unfold oC
 simp only [aZ,jV]; try rfl
def tmB (x:Int):Bool:=decide (0≤x) && decide (x≤9007199254740992)
theorem kK {x:Int}:tmB x=true ↔ 0≤x∧x≤9007199254740992:=by simp [tmB]
theorem qS {x:Int}:qV x=true ↔ -9007199254740992≤x∧x≤9007199254740992:=by simp [qV]
def nmL:Str:=[95,95,110,97,109,101,95,95]
def anL:Str:=[97,108,101,114,116,110,97,109,101]
def asL:Str:=[97,108,101,114,116,115,116,97,116,101]
def mOk (m:bI):Bool:=cP m.Name && decide (m.Value.length≤64)
def lX (s:cN):Bool:=cP s.Name && decide (s.M.length≤8) && s.M.all mOk
theorem EJ (s:cN):tE s=some (lX s):=by
 unfold tE lX
 simp only [iU,aD,aZ,bK,aV]
 cases cP s.Name
 ·rfl
 simp only [aY,Bool.true_and]
 by_cases h:8 < s.M.length
 ·rw [if_pos (by omega),decide_eq_false (by omega)]; rfl
 rw [if_neg (by omega),decide_eq_true (show s.M.length≤8 by omega),Bool.true_and]
 refine (fV s.M.length (fun i=>(s.M.drop i).all mOk) ?_ ?_).trans (by simp)
 ·intro i hi
  simp only [aV,bB (bO hi)]
  rw [if_pos (by omega),dY hi,List.all_cons]
  cases h1:cP (nth s.M i).Name
  ·left; simp [mOk,h1]
  ·simp only [aY]
   by_cases h2:64 < (nth s.M i).Value.length
   ·left; rw [if_pos (by omega)]; simp [mOk,show ¬ (nth s.M i).Value.length≤64 from by omega]
   ·right; rw [if_neg (by omega),bF (by omega)]
    exact ⟨by simp,by simp [mOk,h1]; omega⟩
 ·try simp only [aV]
  rw [if_neg (by omega)]
  simp
def jW (e:bX):Bool:=lX e.S && (decide (1≤e.Op) && decide (e.Op≤6)) && qV e.V
theorem CD (e:bX):qY e=some (jW e):=by
 unfold qY oL jW
 simp only [EJ,aD,aZ,Av,jV,bL]
 cases lX e.S
 ·rfl
 cases (decide (1≤e.Op) && decide (e.Op≤6)) <;> rfl
theorem uE (v:Int):nC v=some (tmB v):=by
 unfold nC
 simp only [aZ,jV]; try rfl
def Bl (n:Str):Bool:=decide (n=nmL) || decide (n=anL) || decide (n=asL)
theorem E1 (n:Str):nE n=some (Bl n):=by
 unfold nE Bl
 simp only [aZ,u4,bL]; try rfl
theorem xW (l:List aQ) (h:l.length≤100000000):lB l=some (l.any fun p=>Bl p.1):=by
 unfold lB
 simp only [aZ]
 refine (fV l.length (fun i=>(l.drop i).any fun p=>Bl p.1) ?_ ?_).trans (by simp)
 ·intro i hi
  simp only [aV,bB (iL hi),E1,aD]
  rw [if_pos (by omega),AG hi,List.any_cons]
  cases h1:Bl (pr l i).1
  ·right; rw [bF (by omega)]; exact ⟨by simp,by simp⟩
  ·left; simp
 ·try simp only [aV]
  rw [if_neg (by omega)]
  simp
def eI (r:aR):Bool:=cP r.Name && jW r.E && tmB r.For && tmB r.Keep && iY r.Labels && !r.Labels.any fun p=>Bl p.1
theorem xI (r:aR):oM r=some (eI r):=by
 unfold oM eI
 simp only [iU,aD,aZ,CD,uE,I1,bL]
 cases cP r.Name
 ·rfl
 cases jW r.E
 ·rfl
 cases tmB r.For
 ·rfl
 cases tmB r.Keep
 ·rfl
 cases h:iY r.Labels
 ·rfl
 simp only [aY]
 rw [xW _ (by have:=(uR.1 h).1; omega)]
 rfl
def Xc (s:cN):Prop:=s.Name.length≤9223372036854775807∧s.M.length≤9223372036854775807∧∀ m ∈ s.M,m.Name.length≤9223372036854775807
def G7 (r:aR):Prop:=r.Name.length≤9223372036854775807∧Xc r.E.S∧Sml r.Labels
theorem IB (a b:cN) (h:a.M.length≤9223372036854775807):rN a b=some (decide (a=b)):=by
 unfold rN
 simp only [aZ,bK,aV,bL]
 by_cases h1:a.Name=b.Name
 ·rw [if_pos h1]
  by_cases h2:(a.M.length:Int)=b.M.length
  ·rw [if_pos h2]
   have h2:a.M.length=b.M.length:=by omega
   refine (fV a.M.length (fun i=>decide (a.M.drop i=b.M.drop i)) ?_ ?_).trans ?_
   ·intro i hi
    simp only [bB (bO hi),bB (bO (h2 ▸ hi)),bK]
    rw [if_pos (by omega),dY (l:=a.M) hi,dY (l:=b.M) (show i < b.M.length by omega)]
    by_cases h3:nth a.M i=nth b.M i
    ·right
     rw [h3,bF (by omega)]
     refine ⟨by simp,by simp⟩
    ·left
     rw [show (decide ((nth a.M i).Name=(nth b.M i).Name) && (decide ((nth a.M i).Value=(nth b.M i).Value) && ((nth a.M i).Not == (nth b.M i).Not && true)))=false from by
      apply Bool.eq_false_iff.2
      intro h4
      apply h3
      simp only [Bool.and_eq_true,decide_eq_true_eq,beq_iff_eq,and_true] at h4
      generalize nth a.M i=x at *
      generalize nth b.M i=y at *
      cases x; cases y
      simp only at h4
      obtain ⟨rfl,rfl,rfl⟩:=h4
      rfl]
     simp [h3]
   ·rw [if_neg (by omega)]
    simp [h2]
   ·congr 1
    rw [decide_eq_decide]
    simp only [List.drop_zero]
    constructor
    ·intro h3; cases a; cases b; simp_all
    ·intro h3; rw [h3]
  ·rw [if_neg h2]
   congr 1
   symm; rw [decide_eq_false_iff_not]
   intro h3; apply h2; rw [h3]
 ·rw [if_neg h1]
  congr 1
  symm; rw [decide_eq_false_iff_not]
  intro h3; apply h1; rw [h3]
theorem I0 (a b:aR) (h:G7 a):oX a b=some (decide (a=b)):=by
 unfold oX wS
 simp only [IB _ _ h.2.1.2.1,IK _ _ h.2.2.len,aD,aZ,aV,bL]
 obtain ⟨n,⟨s,op,v⟩,fr,kp,l⟩:=a
 obtain ⟨n',⟨s',op',v'⟩,fr',kp',l'⟩:=b
 simp only [aR.mk.injEq,bX.mk.injEq]
 by_cases h1:n=n'
 ·by_cases h2:s=s'
  ·by_cases h3:op=op'
   ·by_cases h4:v=v'
    ·by_cases h5:fr=fr'
     ·by_cases h6:kp=kp'
      ·simp [h1,h2,h3,h4,h5,h6]
      ·simp [h1,h2,h3,h4,h5,h6]
     ·simp [h1,h2,h3,h4,h5]
    ·simp [h1,h2,h3,h4]
   ·simp [h1,h2,h3]
  ·simp [h1,h2]
 ·simp [h1]
def eG (c:UInt8):Str:=if c=92 then [92,92] else if c=34 then [92,34] else if c=10 then [92,110] else [c]
def dH (s:Str):Str:=34 :: (s.flatMap eG ++ [34])
theorem gR (c:UInt8) (k:Nat) (hk:k < 256):((c.toNat:Int)=(k:Int)) ↔ c=UInt8.ofNat k:=by
 constructor
 ·intro h
  have h:c.toNat=k:=by omega
  rw [← h]; simp
 ·rintro rfl
  simp [Nat.mod_eq_of_lt hk]
theorem A5 (c:UInt8) (k:Nat) (hk:k < 256):decide ((c.toNat:Int)=(k:Int))=decide (c=UInt8.ofNat k):=by
 rw [decide_eq_decide]; exact gR c k hk
theorem E3 (c:UInt8):1≤(eG c).length∧(eG c).length≤2:=by
 unfold eG
 repeat' split
 all_goals simp
theorem HV (c:UInt8):d7 [(c.toNat:Int)]=[c]:=by simp [d7]
theorem CC (s:Str):(dH s).length≤2 * s.length + 2:=by
 have:(s.flatMap eG).length≤2 * s.length:=by
  induction s with
  | nil=>simp
  | cons c s ih=>
   rw [List.flatMap_cons,List.length_append,List.length_cons]
   have:=(E3 c).2
   omega
 simp only [dH,List.length_cons,List.length_append,List.length_nil]; omega
theorem QV (c:UInt8):(if ((c.toNat:Int)=92) then d7 [(92:Int),(c.toNat:Int)] else if ((c.toNat:Int)=34) then d7 [(92:Int),(c.toNat:Int)] else if ((c.toNat:Int)=10) then d7 [(92:Int),(110:Int)] else d7 [(c.toNat:Int)])=eG c:=by
 unfold eG
 have h1:=gR c 92 (by decide)
 have h2:=gR c 34 (by decide)
 have h3:=gR c 10 (by decide)
 simp only [Int.cast_ofNat_Int] at h1 h2 h3
 by_cases k1:c=92
 ·subst k1; rfl
 rw [if_neg (fun h=>k1 (h1.1 h)),if_neg k1]
 by_cases k2:c=34
 ·subst k2; rfl
 rw [if_neg (fun h=>k2 (h2.1 h)),if_neg k2]
 by_cases k3:c=10
 ·subst k3; rfl
 rw [if_neg (fun h=>k3 (h3.1 h)),if_neg k3]
 exact HV c
theorem Dh (s:Str) (h:s.length≤100000000):kF s=some (dH s):=by
 unfold kF
 simp only [fY,aZ]
 refine (lJ s.length (fun i a=>a.length≤1 + 2 * i) (fun i a=>d7 a ++ (s.drop i).flatMap eG ++ [34]) ?_ ?_ (by simp)).trans (by simp [dH,d7])
 ·intro i a hi ha
  right
  simp only [aV,bB (bO hi)]
  rw [if_pos (by omega),dY hi,bF (by omega)]
  simp only [List.flatMap_cons]
  rw [← QV (nth s i)]
  by_cases k1:((nth s i).toNat:Int)=92
  ·rw [if_pos k1,if_pos k1,aP (by simp; omega)]
   exact ⟨_,rfl,by simp; omega,by simp [iK]⟩
  rw [if_neg k1,if_neg k1]
  by_cases k2:((nth s i).toNat:Int)=34
  ·rw [if_pos k2,if_pos k2,aP (by simp; omega)]
   exact ⟨_,rfl,by simp; omega,by simp [iK]⟩
  rw [if_neg k2,if_neg k2]
  by_cases k3:((nth s i).toNat:Int)=10
  ·rw [if_pos k3,if_pos k3,aP (by simp; omega)]
   exact ⟨_,rfl,by simp; omega,by simp [iK]⟩
  rw [if_neg k3,if_neg k3,aP (by simp; omega)]
  exact ⟨_,rfl,by simp; omega,by simp [iK]⟩
 ·intro a ha
  simp only [aV]
  rw [if_neg (by omega),aP (by simp; omega)]
  simp [iK,d7]
theorem OZ (s:Str) (k:Nat) (h:k < s.length):(bs s).get! k=nth s k:=O0 s (bO h)
theorem Om (s:Str) (k:Nat) (h:k < s.length) (hc:(nth s k).toNat < 128):Utf8.decode (bs s) k=((nth s k).toNat,1):=by
 unfold Utf8.decode
 simp only [Nat.add_zero,OZ s k h]
 rw [if_pos hc]
theorem LC (s:Str) (k:Nat) (h:k < s.length) (hc:128≤(nth s k).toNat):128≤(Utf8.decode (bs s) k).1:=by
 unfold Utf8.decode
 simp only [Nat.add_zero,OZ s k h]
 rw [if_neg (by omega)]
 split
 ·(try dsimp only)
  split
  ·assumption
  ·decide
 ·split
  ·(try dsimp only)
   split
   ·rename_i h1
    simp only [Bool.and_eq_true,decide_eq_true_eq,ge_iff_le] at h1
    have:=h1.1; omega
   ·decide
  ·split
   ·(try dsimp only)
    split
    ·rename_i h1
     simp only [Bool.and_eq_true,decide_eq_true_eq,ge_iff_le] at h1
     have:=h1.1; omega
    ·decide
   ·decide
theorem QW {β:Type} (s:Str) (k:Nat) (f:Int→Nat→Option β) (g:Option β) (h:s.length≤k):BX s k f g=g:=by
 unfold BX; rw [if_neg (by omega)]
theorem QF {β:Type} (s:Str) (k:Nat) (f:Int→Nat→Option β) (g:Option β) (h:k < s.length) (hc:(nth s k).toNat < 128):BX s k f g=f ((nth s k).toNat:Int) (k + 1):=by
 unfold BX Gu; rw [if_pos h,Om s k h hc]
theorem O1 {β:Type} (s:Str) (k:Nat) (f:Int→Nat→Option β) (g:Option β) (h:k < s.length) (hc:128≤(nth s k).toNat):∃ r w,128≤r∧BX s k f g=f r w:=by
 unfold BX Gu
 rw [if_pos h]
 exact ⟨_,_,by have:=LC s k h hc; omega,rfl⟩
def pA (v d:Int):Int:=min (v * 10 + d) 9007199254740993
theorem Ey (v d:Int) (h:0≤v∧v≤9007199254740993) (hd:0≤d∧d≤9):qW v d=some (pA v d):=by
 unfold qW pA
 simp only [aZ,bL]
 rw [bF (show -9223372036854775808≤v * 10∧v * 10≤9223372036854775807 by omega),bF (by omega)]
theorem EL {v d:Int} (h:0≤v∧v≤9007199254740993) (hd:0≤d∧d≤9):0≤pA v d∧pA v d≤9007199254740993:=by
 unfold pA; omega
def nP:Str→Int→Int→Int→Bool→Option (Int × Int × Int × Bool)
 | [],v,w,p,b=>some (v,w,p,b)
 | c :: s,v,w,p,b=>
  if c=46∧b=false∧0 < w then nP s v w p true
  else if c.toNat < 48 ∨ 57 < c.toNat then none
  else if b=true then nP s (pA v (c.toNat - 48:Int)) w (p + 1) true
  else nP s (pA v (c.toNat - 48:Int)) (w + 1) p false
theorem oV (c:UInt8) (s:Str) (v w p:Int) (b:Bool):nP (c :: s) v w p b=if c=46∧b=false∧0 < w then nP s v w p true
  else if c.toNat < 48 ∨ 57 < c.toNat then none
  else if b=true then nP s (pA v (c.toNat - 48:Int)) w (p + 1) true
  else nP s (pA v (c.toNat - 48:Int)) (w + 1) p false:=rfl
theorem CW (v w p:Int) (b:Bool):nP [] v w p b=some (v,w,p,b):=rfl
def tC:Nat→Int→Int
 | 0,v=>v
 | n + 1,v=>tC n (pA v 0)
def CM (below:Bool):Option (Int × Int × Int × Bool)→Int × Int
 | none=>(0,1)
 | some (v,w,p,b)=>if w=0 ∨ 3 < p ∨ (b=true∧p=0) then (0,1) else if qV (tC (3 - p).toNat v) then (if below then -tC (3 - p).toNat v else tC (3 - p).toNat v,0) else (0,2)
def kD (s:Str):Str × Bool:=match s with | 45 :: t=>(t,true) | _=>(s,false)
def Oj (s:Str):Int × Int:=CM (kD s).2 (nP (kD s).1 0 0 0 false)
theorem CK (s p:Str) (h:s.length≤9223372036854775807):fM s p=some (decide (s.take p.length=p)):=by
 unfold fM
 simp only [aZ,aV,bL]
 by_cases h1:p.length≤s.length
 ·rw [if_pos (by omega),aP (by omega)]
  simp
 ·rw [if_neg (by omega)]
  congr 1; symm
  rw [decide_eq_false_iff_not]
  intro h2
  have:=congrArg List.length h2
  rw [List.length_take] at this; omega
theorem Lu (s:Str) (h:s.length≤9223372036854775807):j9 s [45]=some (kD s):=by
 unfold j9 jT
 rw [CK s _ h]
 simp only [aD,aZ,bK,aV,bL]
 match s with
 | []=>rfl
 | c :: t=>
  unfold kD
  by_cases hc:c=45
  ·subst hc
   simp only [List.length_cons,List.length_nil] at *
   rw [if_pos (by simp),aP (by omega)]
   simp
  ·rw [if_neg (by simpa using hc)]
   simp only [aD]
   split
   ·rename_i h1; cases h1; exact absurd rfl hc
   ·rfl
theorem Xg {x:Int} (h:0≤x∧x≤9):IntKind.i32.wrap x=x:=by
 obtain ⟨h1,h2⟩:=h
 have:x=0 ∨ x=1 ∨ x=2 ∨ x=3 ∨ x=4 ∨ x=5 ∨ x=6 ∨ x=7 ∨ x=8 ∨ x=9:=by omega
 rcases this with rfl | rfl | rfl | rfl | rfl | rfl | rfl | rfl | rfl | rfl <;> decide
theorem Qy {ph:Int × Int→List (Nat × AV)}{ob:Int × Int→List Obj}{β:Type} (fin:Int→Option β) (n:Nat) (hn:n≤3) (G:Int→β)
  (hG:∀ v,0≤v∧v≤9007199254740993→fin v=some (G v)) (v:Int) (hv:0≤v∧v≤9007199254740993) :
  bU ph ob (fun (x25:Int × Int)=>if x25.2 < (n:Int) then aN vI (fun _=>[]) (qW x25.1 0) fun x27=>bE (x27,wI (x25.2 + 1)) else a8 (fin x25.1)) (v,0)=some (G (tC n v)):=by
 refine (lJ n (fun i a=>0≤a∧a≤9007199254740993) (fun i a=>G (tC (n - i) a)) ?_ ?_ hv).trans (by simp)
 ·intro i a hi ha
  right
  rw [if_pos (by simp only; omega)]
  simp only []
  rw [Ey _ _ ha (by omega),aD,bF (by omega)]
  refine ⟨pA a 0,by simp,EL ha (by omega),?_⟩
  rw [show n - i=(n - (i + 1)) + 1 by omega]; rfl
 ·intro a ha
  rw [if_neg (by simp only; omega)]
  simp only []
  rw [hG a ha]
  simp [tC]
theorem JB (s:Str) (h:s.length≤100000000):uO s=some (Oj s):=by
 unfold uO
 rw [Lu s (by omega),aD]
 have ht:(kD s).1.length≤100000000:=by
  unfold kD; split
  ·simp at h; simp; omega
  ·exact h
 unfold Oj
 generalize kD s=cb at *
 obtain ⟨t,below⟩:=cb
 simp only at ht ⊢
 simp only [aZ]
 refine eN (fun x:Nat × Int × Int × Int × Bool=>x.1≤t.length∧(0≤x.2.1∧x.2.1≤9007199254740993)∧(0≤x.2.2.1∧x.2.2.1≤x.1)∧(0≤x.2.2.2.1∧x.2.2.2.1≤x.1)) (fun x=>t.length - x.1)
  (fun x=>CM below (nP (t.drop x.1) x.2.1 x.2.2.1 x.2.2.2.1 x.2.2.2.2)) ?_ (by simp)
 rintro ⟨k,v,w,p,b⟩ ⟨hk,hv,hw,hp⟩
 simp only at hk hv hw hp ⊢
 rcases Nat.lt_or_ge k t.length with hkt | hkt
 ·rw [dY hkt]
  rcases Nat.lt_or_ge (nth t k).toNat 128 with hc | hc
  ·rw [QF _ _ _ _ hkt hc,oV]
   rw [show (bif bif decide (((nth t k).toNat:Int)=46) then !b else false then decide (0 < w) else false)=decide (nth t k=46∧b=false∧0 < w) from by
    have:=A5 (nth t k) 46 (by decide)
    simp only [Int.cast_ofNat_Int] at this
    rw [this]
    by_cases h1:nth t k=46 <;> by_cases h2:0 < w <;> cases b <;> simp [h1,h2]]
   simp only [aV]
   by_cases hpt:nth t k=46∧b=false∧0 < w
   ·rw [if_pos hpt,if_pos hpt]
    right
    exact ⟨(k + 1,v,w,p,true),rfl,⟨by simp only; omega,hv,by simp only; omega,by simp only; omega⟩,by simp only; omega,rfl⟩
   rw [if_neg hpt,if_neg hpt]
   rw [show (bif decide (((nth t k).toNat:Int) < 48) then true else decide ((57:Int) < ((nth t k).toNat:Int)))=decide ((nth t k).toNat < 48 ∨ 57 < (nth t k).toNat) from by
    by_cases h1:(nth t k).toNat < 48 <;> by_cases h2:57 < (nth t k).toNat <;> simp [h1,h2] <;> omega]
   simp only [aV]
   by_cases hbad:(nth t k).toNat < 48 ∨ 57 < (nth t k).toNat
   ·rw [if_pos hbad,if_pos hbad]
    left; rfl
   rw [if_neg hbad,if_neg hbad]
   rw [Xg (by omega),bF (by omega),Ey _ _ hv (by omega),aD]
   right
   cases b
   ·simp only [a6]
    rw [bF (by omega),if_neg (by simp)]
    exact ⟨(k + 1,_,w + 1,p,false),rfl,⟨by simp only; omega,EL hv (by omega),by simp only; omega,by simp only; omega⟩,by simp only; omega,rfl⟩
   ·simp only [aY,if_true]
    rw [bF (by omega)]
    exact ⟨(k + 1,_,w,p + 1,true),rfl,⟨by simp only; omega,EL hv (by omega),by simp only; omega,by simp only; omega⟩,by simp only; omega,rfl⟩
  ·obtain ⟨r,wd,hr,e⟩:=O1 t k _ _ hkt hc
   left
   rw [e]
   rw [show decide (r=46)=false from by simp; omega]
   rw [show decide (r < 48)=false from by simp; omega,show decide ((57:Int) < r)=true from by simp; omega]
   rw [oV,if_neg (by rintro ⟨h1,_⟩; rw [h1] at hc; revert hc; decide),if_pos (by omega)]
   rfl
 ·left
  rw [QW _ _ _ _ hkt,List.drop_eq_nil_of_le hkt]
  rw [CW]
  unfold CM
  rw [show (bif bif decide (w=0) then true else decide (3 < p) then true else bif b then decide (p=0) else false)=decide (w=0 ∨ 3 < p ∨ (b=true∧p=0)) from by
   by_cases h1:w=0 <;> by_cases h2:3 < p <;> by_cases h3:p=0 <;> cases b <;> simp [h1,h2,h3]]
  simp only [aV]
  by_cases hbad:w=0 ∨ 3 < p ∨ (b=true∧p=0)
  ·rw [if_pos hbad,if_pos hbad]; rfl
  rw [if_neg hbad,if_neg hbad]
  rw [bF (by omega)]
  obtain ⟨n,hn⟩:=Int.eq_ofNat_of_zero_le (show 0≤3 - p by omega)
  rw [hn,Int.toNat_natCast]
  rw [Qy (fun v=>aN vB (fun _=>[]) (oC v) fun x29=>aG (!x29) (aH (0,2)) (aG below (aH (wI (0 - v),0)) (aH (v,0)))) n (by omega) (fun v=>if qV v then (if below then -v else v,0) else (0,2)) ?_ v hv]
  ·rfl
  ·intro v hv
   rw [Av,aD,bK]
   cases qV v
   ·rfl
   ·cases below
    ·rfl
    ·simp only [aY]
     rw [bF (by omega)]
     simp
def isD (c:UInt8):Bool:=decide (48≤c.toNat) && decide (c.toNat≤57)
theorem nG {c:UInt8}:isD c=true ↔ 48≤c.toNat∧c.toNat≤57:=by simp [isD]
theorem Ik {c:UInt8}:isD c=false ↔ c.toNat < 48 ∨ 57 < c.toNat:=by
 rw [Bool.eq_false_iff,Ne,nG]; omega
def tM (v:Int) (c:UInt8):Int:=v * 10 + (c.toNat - 48:Int)
def BS (cap v:Int) (c:UInt8):Int:=min (tM v c) cap
def m8 (l:Str):Int:=l.foldl tM 0
theorem lI:∀ (l:Str) {v:Int},(∀ c ∈ l,isD c=true)→0≤v→0≤l.foldl tM v
 | [],_,_,h=>h
 | c :: l,v,hl,h=>by
  rw [List.foldl_cons]
  have:=nG.1 (hl c (by simp))
  exact lI l (fun d hd=>hl d (by simp [hd])) (by unfold tM; omega)
theorem BW {cap:Int} (hc:0≤cap):∀ (l:Str) {v:Int},(∀ c ∈ l,isD c=true)→0≤v→l.foldl (BS cap) (min v cap)=min (l.foldl tM v) cap
 | [],_,_,_=>rfl
 | c :: l,v,hl,h=>by
  rw [List.foldl_cons,List.foldl_cons]
  have:=nG.1 (hl c (by simp))
  rw [show BS cap (min v cap) c=min (tM v c) cap from by unfold BS tM; omega]
  exact BW hc l (fun d hd=>hl d (by simp [hd])) (by unfold tM; omega)
theorem MO:∀ (n:Nat) {v:Int},0≤v→tC n (min v 9007199254740993)=min (v * 10 ^ n) 9007199254740993
 | 0,v,_=>by simp [tC]
 | n + 1,v,h=>by
  unfold tC
  rw [show pA (min v 9007199254740993) 0=min (v * 10) 9007199254740993 from by unfold pA; omega,MO n (by omega),Int.pow_succ]
  congr 1
  rw [Int.mul_assoc,Int.mul_comm 10]
def s7 (below:Bool) (x:Int):Int × Int:=if x≤9007199254740992 then (if below then -x else x,0) else (0,2)
def pK (s:Str):Int × Int :=
 match (kD s).1.dropWhile isD with
 | []=>if (kD s).1.takeWhile isD=[] then (0,1) else s7 (kD s).2 (m8 ((kD s).1.takeWhile isD) * 1000)
 | c :: r=>if c=46∧(kD s).1.takeWhile isD ≠ []∧r.dropWhile isD=[]∧1≤r.length∧r.length≤3 then s7 (kD s).2 (m8 ((kD s).1.takeWhile isD ++ r) * 10 ^ (3 - r.length)) else (0,1)
theorem Ky:∀ (l r:Str) (v w p:Int),(∀ c ∈ l,isD c=true)→nP (l ++ r) v w p false=nP r (l.foldl (BS 9007199254740993) v) (w + l.length) p false
 | [],r,v,w,p,_=>by simp
 | c :: l,r,v,w,p,hl=>by
  have h1:=nG.1 (hl c (by simp))
  rw [List.cons_append,oV,if_neg (by rintro ⟨rfl,_⟩; revert h1; decide),if_neg (by omega),if_neg (by simp),Ky l r _ _ _ (fun d hd=>hl d (by simp [hd])),List.foldl_cons]
  simp only [List.length_cons]
  congr 1
  omega
theorem Jn:∀ (l r:Str) (v w p:Int),(∀ c ∈ l,isD c=true)→nP (l ++ r) v w p true=nP r (l.foldl (BS 9007199254740993) v) w (p + l.length) true
 | [],r,v,w,p,_=>by simp
 | c :: l,r,v,w,p,hl=>by
  have h1:=nG.1 (hl c (by simp))
  rw [List.cons_append,oV,if_neg (by rintro ⟨_,h,_⟩; cases h),if_neg (by omega),if_pos rfl,Jn l r _ _ _ (fun d hd=>hl d (by simp [hd])),List.foldl_cons]
  simp only [List.length_cons]
  congr 1
  omega
theorem mW (t:Str):∀ c ∈ t.takeWhile isD,isD c=true:=fun c hc=>by
 induction t with
 | nil=>simp at hc
 | cons a t ih=>
  rw [List.takeWhile_cons] at hc
  split at hc
  ·rcases List.mem_cons.1 hc with rfl | hc
   ·assumption
   ·exact ih hc
  ·simp at hc
theorem JC {t:Str}{c:UInt8}{r:Str} (h:t.dropWhile isD=c :: r):isD c=false:=by
 induction t with
 | nil=>simp at h
 | cons a t ih=>
  rw [List.dropWhile_cons] at h
  split at h
  ·exact ih h
  ·rename_i h1; cases h; simpa using h1
theorem MZ (below:Bool) {x:Int} (h:0≤x) (n:Nat):(if qV (tC n (min x 9007199254740993)) then (if below then -tC n (min x 9007199254740993) else tC n (min x 9007199254740993),(0:Int)) else (0,2))=s7 below (x * 10 ^ n):=by
 rw [MO n h]
 have hx:0≤x * 10 ^ n:=Int.mul_nonneg h (Int.pow_nonneg (by omega))
 unfold s7
 by_cases h1:x * 10 ^ n≤9007199254740992
 ·rw [if_pos h1,if_pos (qS.2 (by omega)),show min (x * 10 ^ n) 9007199254740993=x * 10 ^ n from by omega]
 ·rw [if_neg h1,if_neg (fun h2=>by have:=qS.1 h2; omega)]
theorem SR (s:Str):Oj s=pK s:=by
 unfold Oj pK
 generalize kD s=cb
 obtain ⟨t,below⟩:=cb
 dsimp only
 have e:=List.takeWhile_append_dropWhile (p:=isD) (l:=t)
 have hd:=mW t
 have hh:∀ c r',t.dropWhile isD=c :: r'→isD c=false:=fun c r' h=>JC h
 revert e hh hd
 generalize t.takeWhile isD=ds
 generalize t.dropWhile isD=r
 intro e hd hh
 subst e
 have hv:=lI ds hd (Int.le_refl 0)
 have hs:=BW (cap:=9007199254740993) (by omega) ds hd (Int.le_refl 0)
 simp only [show min (0:Int) 9007199254740993=0 from rfl] at hs
 rw [Ky _ _ _ _ _ hd,hs]
 rcases r with _ | ⟨c,r⟩
 ·rw [CW]
  unfold CM
  dsimp only
  by_cases h1:ds=[]
  ·subst h1; rfl
  ·have:0 < ds.length:=List.length_pos_iff.2 h1
   rw [if_neg (by simp; omega),if_neg h1]
   exact MZ below hv 3
 ·have hc:=Ik.1 (hh c r rfl)
  dsimp only
  rw [oV]
  by_cases h1:c=46∧false=false∧0 < 0 + (ds.length:Int)
  ·rw [if_pos h1]
   have hne:ds ≠ []:=List.length_pos_iff.1 (by omega)
   have e:=List.takeWhile_append_dropWhile (p:=isD) (l:=r)
   have hd2:=mW r
   have hh2:∀ c r',r.dropWhile isD=c :: r'→isD c=false:=fun c r' h=>JC h
   revert e hh2 hd2
   generalize r.takeWhile isD=ps
   generalize r.dropWhile isD=q
   intro e hd2 hh2
   subst e
   have hs2:=BW (cap:=9007199254740993) (by omega) ps hd2 hv
   rw [Jn _ _ _ _ _ hd2,hs2]
   rcases q with _ | ⟨c2,q⟩
   ·rw [CW,List.append_nil]
    unfold CM
    dsimp only
    by_cases h2:1≤ps.length∧ps.length≤3
    ·rw [if_neg (show ¬(0 + (ds.length:Int)=0 ∨ 3 < 0 + (ps.length:Int) ∨ (true=true∧0 + (ps.length:Int)=0)) from by rintro (h | h | ⟨_,h⟩) <;> omega),if_pos (show c=46∧ds ≠ []∧([]:Str)=[]∧1≤ps.length∧ps.length≤3 from ⟨h1.1,hne,rfl,h2⟩)]
     rw [MZ below (lI ps hd2 hv),show (3 - (0 + (ps.length:Int))).toNat=3 - ps.length by omega]
     unfold m8; rw [List.foldl_append]
    ·rw [if_pos (show 0 + (ds.length:Int)=0 ∨ 3 < 0 + (ps.length:Int) ∨ (true=true∧0 + (ps.length:Int)=0) from by
      by_cases h4:ps.length=0
      ·exact .inr (.inr ⟨rfl,by omega⟩)
      ·exact .inr (.inl (by omega))),if_neg (show ¬(c=46∧ds ≠ []∧([]:Str)=[]∧1≤ps.length∧ps.length≤3) from fun h=>h2 h.2.2.2)]
   ·have hc2:=Ik.1 (hh2 c2 q rfl)
    rw [oV,if_neg (by rintro ⟨_,h,_⟩; cases h),if_pos hc2,if_neg (by rintro ⟨_,_,h,_⟩; cases h)]
    rfl
  ·rw [if_neg h1,if_pos hc,if_neg]
   ·rfl
   ·rintro ⟨h2,h3,_⟩
    exact h1 ⟨h2,rfl,by have:=List.length_pos_iff.2 h3; omega⟩
theorem J9 {σ β:Type}{ph:σ→List (Nat × AV)}{ob:σ→List Obj}{rest:σ→Option β}{m:Option (σ ⊕ β)}{x:σ}{r:Option β} (hm:m=some (.inl x)) (h:rest x=r):BQ ph ob rest m=r:=by
 subst hm; exact h
def Ox (below:Bool) (t:Str):Int × Int :=
 match t.dropWhile isD with
 | []=>if t.takeWhile isD=[] then (0,1) else s7 below (m8 (t.takeWhile isD) * 1000)
 | c :: r=>if c=46∧t.takeWhile isD ≠ []∧r.dropWhile isD=[]∧1≤r.length∧r.length≤3 then s7 below (m8 (t.takeWhile isD ++ r) * 10 ^ (3 - r.length)) else (0,1)
theorem UA (s:Str):pK s=Ox (kD s).2 (kD s).1:=rfl
end Go.Proofs.YthgenmkengbmmaaGreatDoor.AM
namespace Go.Proofs.YthgenmkengbmmaaGreatDoor.AM
open Go
open Go.Lib (decDigits)
def dgB (n:Nat):UInt8:=UInt8.ofNat (48 + n)
theorem mO {u:Nat} (h:u < 10):decDigits u=[dgB u]:=by rw [decDigits,dif_pos h]; rfl
theorem tD {u:Nat} (h:¬ u < 10):decDigits u=decDigits (u / 10) ++ [dgB (u % 10)]:=by rw [decDigits,dif_neg h]; rfl
theorem uQ {n:Nat} (h:n < 10):(dgB n).toNat=48 + n:=by
 unfold dgB; rw [UInt8.toNat_ofNat']; omega
theorem o7 {n:Nat} (h:n < 10):isD (dgB n)=true:=by
 rw [nG,uQ h]; omega
theorem w4:∀ (u:Nat),∀ c ∈ decDigits u,isD c=true:=by
 intro u
 induction u using Nat.strongRecOn with
 | ind u ih=>
  intro c hc
  by_cases h:u < 10
  ·rw [mO h] at hc
   rw [List.mem_singleton.1 hc]; exact o7 h
  ·rw [tD h] at hc
   rcases List.mem_append.1 hc with hc | hc
   ·exact ih (u / 10) (by omega) c hc
   ·rw [List.mem_singleton.1 hc]; exact o7 (by omega)
theorem Ba:∀ (u:Nat),m8 (decDigits u)=u:=by
 intro u
 induction u using Nat.strongRecOn with
 | ind u ih=>
  by_cases h:u < 10
  ·rw [mO h]
   simp only [m8,List.foldl_cons,List.foldl_nil,tM,uQ h]; omega
  ·rw [tD h]
   have:=ih (u / 10) (by omega)
   unfold m8 at this ⊢
   rw [List.foldl_append,this]
   simp only [List.foldl_cons,List.foldl_nil,tM,uQ (show u % 10 < 10 by omega)]; omega
theorem u7 (u:Nat):decDigits u ≠ []:=by
 by_cases h:u < 10
 ·rw [mO h]; simp
 ·rw [tD h]; simp
theorem DV:∀ (k u:Nat),u < 10 ^ k→1≤k→(decDigits u).length≤k
 | 0,u,h,h1=>by omega
 | k + 1,u,h,_=>by
  by_cases h2:u < 10
  ·rw [mO h2]; simp
  ·rw [tD h2,List.length_append,List.length_singleton]
   have h3:u / 10 < 10 ^ k:=by rw [Nat.pow_succ] at h; omega
   have:1≤k:=by
    rcases Nat.eq_zero_or_pos k with rfl | hk
    ·omega
    ·exact hk
   have:=DV k (u / 10) h3 this
   omega
theorem Hu (n:Nat) (h:n≤9223372036854775807):strconv_Itoa (n:Int)=some (decDigits n):=by
 unfold strconv_Itoa
 rw [aP (by omega)]
 unfold Lib.itoa
 rw [if_neg (by omega),Int.toNat_natCast]
def jH (r:Nat):Str:=if r=0 then [] else if r % 100=0 then [46,dgB (r / 100)] else if r % 10=0 then [46,dgB (r / 100),dgB (r / 10 % 10)] else [46,dgB (r / 100),dgB (r / 10 % 10),dgB (r % 10)]
def kX (u:Nat):Str:=decDigits (u / 1000) ++ jH (u % 1000)
def printN (v:Int):Str:=if qV v then (if v < 0 then 45 :: kX v.natAbs else kX v.natAbs) else []
def wA (b:UInt8):Str→Str
 | s=>(s.reverse.dropWhile (· == b)).reverse
theorem LW (s:Str) (c:UInt8) (h:s.length≤100000000):hY s (c.toNat:Int)=some (wA c s):=by
 unfold hY
 refine eN (fun x:Str=>x.length≤100000000) List.length (wA c) ?_ h
 intro x hx
 simp only [aZ,aV]
 rcases List.eq_nil_or_concat x with rfl | ⟨y,d,rfl⟩
 ·left; rfl
 ·simp only [List.concat_eq_append,List.length_append,List.length_singleton] at hx ⊢
  have hd:(y ++ [d])[((y.length + 1:Nat):Int).toNat - 1]?=some d:=by simp
  rw [if_pos (by omega),bF (by omega),show ((y.length + 1:Nat):Int) - 1=(y.length:Int) by omega,bB (x:=d) (by simp)]
  by_cases he:d=c
  ·right
   rw [if_pos (by rw [he]),aP (by omega)]
   refine ⟨y,by simp,by omega,by omega,?_⟩
   unfold wA; simp [he]
  ·left
   rw [if_neg (fun h=>he (UInt8.toNat_inj.1 (by omega)))]
   unfold wA; simp [he]
theorem JX (s:Str) (h:s.length≤100000000):gD s [48]=some (wA 48 s):=by
 unfold gD
 simp only [aZ,u4,aV,← Bool.decide_or]
 by_cases hs:s=[]
 ·subst hs; rw [if_pos (by simp)]; rfl
 ·rw [if_neg (by simp [hs]),if_pos (by simp),iP (x:=48) (by omega) (by rfl),if_pos (by decide)]
  rw [LW s 48 h]; rfl
theorem Ff {n:Nat} (h:n < 10):dgB n=48 ↔ n=0:=by
 constructor
 ·intro e
  have:=congrArg UInt8.toNat e
  rw [uQ h] at this
  have h48:(48:UInt8).toNat=48:=rfl
  omega
 ·rintro rfl; rfl
theorem QK {r:Nat} (h:r < 1000):decDigits (1000 + r)=[49,dgB (r / 100),dgB (r / 10 % 10),dgB (r % 10)]:=by
 rw [tD (by omega),tD (by omega),tD (by omega),mO (by omega)]
 simp only [List.cons_append,List.nil_append]
 rw [show (1000 + r) / 10 / 10 / 10=1 by omega,show (1000 + r) / 10 / 10 % 10=r / 100 by omega,show (1000 + r) / 10 % 10=r / 10 % 10 by omega,show (1000 + r) % 10=r % 10 by omega]
 rfl
theorem Nu {r:Nat} (h:r < 1000) (h0:r ≠ 0):46 :: wA 48 [dgB (r / 100),dgB (r / 10 % 10),dgB (r % 10)]=jH r:=by
 unfold wA jH
 rw [if_neg h0]
 have e1:=Ff (show r / 100 < 10 by omega)
 have e2:=Ff (show r / 10 % 10 < 10 by omega)
 have e3:=Ff (show r % 10 < 10 by omega)
 by_cases h1:r % 10=0
 ·by_cases h2:r / 10 % 10=0
  ·rw [if_pos (by omega)]
   have h3:¬ dgB (r / 100)=48:=fun h=>by have:=e1.1 h; omega
   simp [e3.2 h1,e2.2 h2,h3]
  ·rw [if_neg (by omega),if_pos h1]
   have h3:¬ dgB (r / 10 % 10)=48:=fun h=>h2 (e2.1 h)
   simp [e3.2 h1,h3]
 ·rw [if_neg (by omega),if_neg h1]
  have h3:¬ dgB (r % 10)=48:=fun h=>h1 (e3.1 h)
  simp [h3]
theorem PZ (b:UInt8) (s:Str):(wA b s).length≤s.length:=by
 unfold wA
 rw [List.length_reverse]
 have:=(List.dropWhile_sublist (fun x=>x == b) (l:=s.reverse)).length_le
 rw [List.length_reverse] at this; exact this
theorem Rm (r:Nat):(jH r).length≤4:=by
 unfold jH; repeat' split
 all_goals simp
theorem NB {u:Nat} (h:u≤9007199254740992):(kX u).length≤30:=by
 unfold kX
 have:=DV 20 (u / 1000) (Nat.lt_of_le_of_lt (show u / 1000≤9007199254740992 by omega) (by decide)) (by omega)
 have:=Rm (u % 1000)
 rw [List.length_append]; omega
theorem RR (u k:Nat):Int.tdiv (u:Int) (k:Int)=((u / k:Nat):Int):=by
 rw [Int.tdiv_eq_ediv_of_nonneg (by omega)]; simp
theorem RT (u k:Nat):Int.tmod (u:Int) (k:Int)=((u % k:Nat):Int):=by
 rw [Int.tmod_eq_emod_of_nonneg (by omega)]; simp
theorem Kf (v:Int):vA v=some (printN v):=by
 unfold vA printN
 simp only [aZ,Av,aD,bK,aV]
 cases hn:qV v
 ·rfl
 have hv:=qS.1 hn
 simp only [aY,if_true]
 have body:∀ (pre:Str) (u:Nat),pre.length≤1→u≤9007199254740992 →
   (aN vS (fun x6=>[]) (strconv_Itoa (wI (Int.tdiv (u:Int) 1000))) fun x6=>
    gdM (pre.length + x6.length≤9223372036854775807) (if Int.tmod (u:Int) 1000=0 then aH (pre ++ x6) else
     aN vS (fun x12=>[]) (strconv_Itoa (wI (1000 + Int.tmod (u:Int) 1000))) fun x12=>gdM (0≤(1:Int)∧(1:Int)≤(x12.length:Int)∧(x12.length:Int)≤(x12.length:Int))
      (gdM ((pre ++ x6).length + ([46]:Str).length≤9223372036854775807) (aN vS (fun x15=>[]) (gD ((x12.take (x12.length:Int).toNat).drop (1:Int).toNat) [48]) fun x15=>
       gdM ((pre ++ x6 ++ [46]).length + x15.length≤9223372036854775807) (aH (pre ++ x6 ++ [46] ++ x15))))))=some (pre ++ kX u):=by
  intro pre u hp hu
  have h1:=RR u 1000
  have h2:=RT u 1000
  simp only [Int.cast_ofNat_Int] at h1 h2
  have hl:=DV 20 (u / 1000) (Nat.lt_of_le_of_lt (show u / 1000≤9007199254740992 by omega) (by decide)) (by omega)
  rw [h1,h2,bF (by omega),Hu _ (by omega),aD,aP (by omega)]
  unfold kX
  by_cases hr:u % 1000=0
  ·rw [if_pos (by omega),hr]; simp [jH]
  ·rw [if_neg (by omega),bF (by omega),show (1000:Int) + ((u % 1000:Nat):Int)=((1000 + u % 1000:Nat):Int) by omega,Hu _ (by omega),aD,QK (by omega)]
   rw [aP (by simp),aP (by simp only [List.length_append,List.length_singleton]; omega)]
   rw [show ((([49,dgB (u % 1000 / 100),dgB (u % 1000 / 10 % 10),dgB (u % 1000 % 10)]:Str).take ((([49,dgB (u % 1000 / 100),dgB (u % 1000 / 10 % 10),dgB (u % 1000 % 10)]:Str).length:Nat):Int).toNat).drop (1:Int).toNat)=[dgB (u % 1000 / 100),dgB (u % 1000 / 10 % 10),dgB (u % 1000 % 10)] from rfl]
   have ht:=PZ 48 [dgB (u % 1000 / 100),dgB (u % 1000 / 10 % 10),dgB (u % 1000 % 10)]
   rw [JX _ (by simp),aD,aP (by simp only [List.length_append,List.length_singleton,List.length_cons,List.length_nil] at ht ⊢; omega)]
   rw [← Nu (show u % 1000 < 1000 by omega) hr]
   simp
 by_cases hneg:v < 0
 ·rw [if_pos hneg,if_pos hneg,bF (x:=0 - v) (by omega),show 0 - v=(v.natAbs:Int) by omega]
  exact body [45] v.natAbs (by simp) (by omega)
 ·rw [if_neg hneg,if_neg hneg]
  have:=body [] v.natAbs (by simp) (by omega)
  rw [show (v.natAbs:Int)=v by omega] at this
  exact this
theorem EM:∀ (l r:Str),(∀ c ∈ l,isD c=true)→(∀ c r',r=c :: r'→isD c=false)→(l ++ r).takeWhile isD=l∧(l ++ r).dropWhile isD=r
 | [],r,_,hr=>by
  rcases r with _ | ⟨c,r⟩
  ·exact ⟨rfl,rfl⟩
  ·have:=hr c r rfl
   simp [List.takeWhile_cons,List.dropWhile_cons,this]
 | c :: l,r,hl,hr=>by
  obtain ⟨h1,h2⟩:=EM l r (fun d hd=>hl d (by simp [hd])) hr
  have:=hl c (by simp)
  simp [List.takeWhile_cons,List.dropWhile_cons,this,h1,h2]
theorem w9 (l:Str) {d:Nat} (h:d < 10):m8 (l ++ [dgB d])=m8 l * 10 + d:=by
 unfold m8
 rw [List.foldl_append]
 simp only [List.foldl_cons,List.foldl_nil,tM,uQ h]; omega
theorem P5 (r:Nat):∀ c r',jH r=c :: r'→isD c=false:=by
 intro c r' h
 unfold jH at h
 split at h
 ·cases h
 ·split at h
  ·cases h; decide
  ·split at h
   ·cases h; decide
   ·cases h; decide
theorem Ep (u:Nat):∃ c t,kX u=c :: t∧isD c=true:=by
 unfold kX
 rcases hd:decDigits (u / 1000) with _ | ⟨c,t⟩
 ·exact absurd hd (u7 _)
 ·exact ⟨c,t ++ jH (u % 1000),rfl,w4 (u / 1000) c (by rw [hd]; simp)⟩
theorem Nf {c:UInt8}{t:Str} (h:isD c=true):kD (c :: t)=(c :: t,false):=by
 unfold kD
 split
 ·rename_i h1; cases h1
  have:isD 45=false:=by decide
  rw [this] at h; cases h
 ·rfl
theorem EA (below:Bool) (u:Nat):Ox below (kX u)=s7 below u:=by
 unfold Ox kX
 obtain ⟨h1,h2⟩:=EM (decDigits (u / 1000)) (jH (u % 1000)) (w4 _) (P5 _)
 rw [h1,h2]
 by_cases hr:u % 1000=0
 ·rw [show jH (u % 1000)=[] from by unfold jH; rw [if_pos hr]]
  dsimp only
  rw [if_neg (u7 _),Ba]
  congr 1; omega
 have d1:=o7 (show u % 1000 / 100 < 10 by omega)
 have d2:=o7 (show u % 1000 / 10 % 10 < 10 by omega)
 have d4:=o7 (show u % 10 < 10 by omega)
 have d3:=o7 (show u % 1000 % 10 < 10 by omega)
 by_cases h3:u % 1000 % 100=0
 ·rw [show jH (u % 1000)=[46,dgB (u % 1000 / 100)] from by unfold jH; rw [if_neg hr,if_pos h3]]
  dsimp only
  rw [if_pos ⟨rfl,u7 _,by simp [List.dropWhile_cons,d1],by simp,by simp⟩,w9 _ (by omega),Ba]
  congr 1
  simp only [List.length_cons,List.length_nil]
  omega
 by_cases h4:u % 1000 % 10=0
 ·rw [show jH (u % 1000)=[46,dgB (u % 1000 / 100),dgB (u % 1000 / 10 % 10)] from by unfold jH; rw [if_neg hr,if_neg h3,if_pos h4]]
  dsimp only
  rw [if_pos ⟨rfl,u7 _,by simp [List.dropWhile_cons,d1,d2],by simp,by simp⟩,show decDigits (u / 1000) ++ [dgB (u % 1000 / 100),dgB (u % 1000 / 10 % 10)]=(decDigits (u / 1000) ++ [dgB (u % 1000 / 100)]) ++ [dgB (u % 1000 / 10 % 10)] from by simp,w9 _ (by omega),w9 _ (by omega),Ba]
  congr 1
  simp only [List.length_cons,List.length_nil]
  omega
 ·rw [show jH (u % 1000)=[46,dgB (u % 1000 / 100),dgB (u % 1000 / 10 % 10),dgB (u % 1000 % 10)] from by unfold jH; rw [if_neg hr,if_neg h3,if_neg h4]]
  dsimp only
  rw [if_pos ⟨rfl,u7 _,by simp [List.dropWhile_cons,d1,d2,d3,d4],by simp,by simp⟩,show decDigits (u / 1000) ++ [dgB (u % 1000 / 100),dgB (u % 1000 / 10 % 10),dgB (u % 1000 % 10)]=(decDigits (u / 1000) ++ [dgB (u % 1000 / 100)] ++ [dgB (u % 1000 / 10 % 10)]) ++ [dgB (u % 1000 % 10)] from by simp,w9 _ (by omega),w9 _ (by omega),w9 _ (by omega),Ba]
  congr 1
  simp only [List.length_cons,List.length_nil]
  omega
theorem Rb {v:Int} (h:qV v=true):pK (printN v)=(v,0):=by
 have hv:=qS.1 h
 unfold printN
 rw [if_pos h,UA]
 by_cases hn:v < 0
 ·rw [if_pos hn]
  show Ox true (kX v.natAbs)=_
  rw [EA]
  unfold s7
  rw [if_pos (by omega),if_pos rfl,show -(v.natAbs:Int)=v by omega]
 ·rw [if_neg hn]
  obtain ⟨c,t,e,hc⟩:=Ep v.natAbs
  have e2:kD (kX v.natAbs)=(kX v.natAbs,false):=by rw [e]; exact Nf hc
  rw [e2,EA]
  unfold s7
  rw [if_pos (by omega),show (v.natAbs:Int)=v by omega]; rfl
def eC:List (Str × Nat):=[([100],86400000),([104],3600000),([109],60000),([115],1000),([109,115],1)]
def Xb:List L4:=[⟨[100],86400000⟩,⟨[104],3600000⟩,⟨[109],60000⟩,⟨[115],1000⟩,⟨[109,115],1⟩]
theorem Mw:∀ (i:Nat),i < 5→∃ (n:Str) (k:Nat),gl0[i]?=some ⟨n,(k:Int)⟩∧Xb[i]?=some ⟨n,(k:Int)⟩∧eC.drop i=(n,k) :: eC.drop (i + 1)∧(1≤k∧k≤86400000)∧1≤n.length∧n.length≤2
 | 0,_=>⟨_,86400000,rfl,rfl,rfl,by omega,by decide,by decide⟩
 | 1,_=>⟨_,3600000,rfl,rfl,rfl,by omega,by decide,by decide⟩
 | 2,_=>⟨_,60000,rfl,rfl,rfl,by omega,by decide,by decide⟩
 | 3,_=>⟨_,1000,rfl,rfl,rfl,by omega,by decide,by decide⟩
 | 4,_=>⟨_,1,rfl,rfl,rfl,by omega,by decide,by decide⟩
 | n + 5,h=>by omega
def fZ:List (Str × Nat)→Nat→Str
 | [],_=>[]
 | (n,k) :: l,d=>(if 0 < d / k then decDigits (d / k) ++ n else []) ++ fZ l (d % k)
def printD (d:Int):Str:=if tmB d then (if d=0 then [48,115] else fZ eC d.toNat) else []
theorem Tw {n:Nat} (h:n≤9223372036854775807):wI (n:Int)=n:=bF (by omega)
theorem HU {u:Nat} (h:u≤9007199254740992):(decDigits u).length≤20:=DV 20 u (Nat.lt_of_le_of_lt h (by decide)) (by omega)
theorem xB (v:Int):lK v=some (printD v):=by
 unfold lK printD
 simp only [aZ,uE,aD,bK,aV,i7]
 cases hn:tmB v
 ·rfl
 have hv:=kK.1 hn
 simp only [aY,if_true]
 by_cases h0:v=0
 ·rw [if_pos h0,if_pos h0]; rfl
 rw [if_neg h0,if_neg h0]
 refine (eN (fun x:Int × Int × Str=>(0≤x.1∧x.1≤9007199254740992)∧(0≤x.2.1∧x.2.1≤5)∧(x.2.2.length:Int)≤22 * x.2.1) (fun x=>6 - x.2.1.toNat) (fun x=>x.2.2 ++ fZ (eC.drop x.2.1.toNat) x.1.toNat) ?_ (by simp only [List.length_nil]; omega)).trans (by simp)
 rintro ⟨d,i,t⟩ ⟨hd,hi,ht⟩
 simp only at hd hi ht ⊢
 obtain ⟨i,rfl⟩:=Int.eq_ofNat_of_zero_le hi.1
 obtain ⟨d,rfl⟩:=Int.eq_ofNat_of_zero_le hd.1
 by_cases h5:i < 5
 ·right
  obtain ⟨n,k,e1,_,e2,hk,hn1,hn2⟩:=Mw i h5
  have hq:d / k≤9007199254740992:=Nat.le_trans (Nat.div_le_self d k) (by omega)
  have hm:d % k≤9007199254740992:=Nat.le_trans (Nat.mod_le d k) (by omega)
  rw [if_pos (by omega),bB e1]
  simp only [Int.toNat_natCast]
  rw [aP (by omega),RR,RT,Tw (Nat.le_trans hq (by decide)),e2]
  simp only [fZ]
  by_cases hp:0 < d / k
  ·have hl:=HU hq
   rw [if_pos (by omega),if_pos hp,Hu _ (by omega),aD,aP (by omega),aP (by rw [List.length_append]; omega),aP (by omega),bF (by omega)]
   exact ⟨(((d % k:Nat):Int),((i + 1:Nat):Int),t ++ (decDigits (d / k) ++ n)),by simp,⟨by simp only; omega,by simp only; omega,by simp only [List.length_append]; omega⟩,by simp only; omega,by simp only [Int.toNat_natCast,List.append_assoc,List.nil_append]⟩
  ·rw [if_neg (by omega),if_neg hp,aP (by omega),bF (by omega)]
   exact ⟨(((d % k:Nat):Int),((i + 1:Nat):Int),t),by simp,⟨by simp only; omega,by simp only; omega,by simp only; omega⟩,by simp only; omega,by simp only [Int.toNat_natCast,List.append_assoc,List.nil_append]⟩
 ·left
  rw [if_neg (by omega),show i=5 by omega]
  simp [eC,fZ]
def fS:Str→Option (Nat × Nat × Nat)
 | 100 :: _=>some (0,1,86400000)
 | 104 :: _=>some (1,1,3600000)
 | 109 :: 115 :: _=>some (4,2,1)
 | 109 :: _=>some (2,1,60000)
 | 115 :: _=>some (3,1,1000)
 | _=>none
def oJ (x:Int):Int × Int:=if x≤9007199254740992 then (x,0) else (0,2)
def oA:Nat→Str→Nat→Int→Int × Int
 | _,[],_,sum=>oJ sum
 | 0,_ :: _,_,_=>(0,1)
 | f + 1,c :: s,fr,sum=>
  if (c :: s).takeWhile isD=[] then (0,1) else
  match fS ((c :: s).dropWhile isD) with
  | none=>(0,1)
  | some (k,n,z)=>if fr≤k then oA f (((c :: s).dropWhile isD).drop n) (k + 1) (sum + m8 ((c :: s).takeWhile isD) * z) else (0,1)
def kV (s:Str):Int × Int:=if s=[] then (0,1) else oA s.length s 0 0
theorem tA (f fr:Nat) (sum:Int):oA f [] fr sum=oJ sum:=by cases f <;> rfl
theorem uH {s:Str}{k n z:Nat} (h:fS s=some (k,n,z)):k < 5∧1≤n∧n≤s.length∧1≤z∧z≤86400000:=by
 unfold fS at h
 split at h <;> first | (cases h; done) | (simp only [Option.some.injEq,Prod.mk.injEq] at h; obtain ⟨rfl,rfl,rfl⟩:=h; simp)
theorem zU {s:Str}{k n z:Nat} (h:fS (s.dropWhile isD)=some (k,n,z)) (h2:s.takeWhile isD ≠ []):((s.dropWhile isD).drop n).length + 2≤s.length:=by
 have e:=congrArg List.length (List.takeWhile_append_dropWhile (p:=isD) (l:=s))
 have:=uH h
 have:=List.length_pos_iff.2 h2
 rw [List.length_append] at e
 rw [List.length_drop]; omega
theorem Iu:∀ (f g:Nat) (s:Str) (fr:Nat) (sum:Int),s.length≤f→s.length≤g→oA f s fr sum=oA g s fr sum
 | f,g,[],fr,sum,_,_=>by rw [tA,tA]
 | 0,g,c :: s,fr,sum,h,_=>by simp at h
 | f + 1,0,c :: s,fr,sum,_,h=>by simp at h
 | f + 1,g + 1,c :: s,fr,sum,h1,h2=>by
  unfold oA
  split
  ·rfl
  ·rename_i hne
   split
   ·rfl
   ·rename_i k n z hu
    split
    ·have:=zU hu hne
     simp only [List.length_cons] at this h1 h2
     exact Iu f g _ _ _ (by omega) (by omega)
    ·rfl
def Am (s:Str) (fr:Nat) (sum:Int):Int × Int:=oA s.length s fr sum
theorem Fq (fr:Nat) (sum:Int):Am [] fr sum=oJ sum:=rfl
theorem GR {s:Str} (hs:s ≠ []) (fr:Nat) (sum:Int):Am s fr sum=if s.takeWhile isD=[] then (0,1) else
  match fS (s.dropWhile isD) with
  | none=>(0,1)
  | some (k,n,z)=>if fr≤k then Am ((s.dropWhile isD).drop n) (k + 1) (sum + m8 (s.takeWhile isD) * z) else (0,1):=by
 rcases s with _ | ⟨c,s⟩
 ·exact absurd rfl hs
 unfold Am
 rw [List.length_cons]
 conv=>lhs; unfold oA
 by_cases h1:(c :: s).takeWhile isD=[]
 ·rw [if_pos h1,if_pos h1]
 ·rw [if_neg h1,if_neg h1]
  rcases hu:fS ((c :: s).dropWhile isD) with _ | ⟨k,n,z⟩
  ·rfl
  ·simp only
   by_cases h2:fr≤k
   ·rw [if_pos h2,if_pos h2]
    have:=zU hu h1
    simp only [List.length_cons] at this
    exact Iu _ _ _ _ _ (by omega) (by omega)
   ·rw [if_neg h2,if_neg h2]
theorem M1 (s:Str):kV s=if s=[] then (0,1) else Am s 0 0:=rfl
theorem Pa (x:Int) (h:0≤x):tmB (oJ x).1=true:=by
 unfold oJ; split
 ·exact kK.2 ⟨h,by assumption⟩
 ·rfl
theorem M5:∀ (f:Nat) (s:Str) (fr:Nat) (sum:Int),0≤sum→tmB (oA f s fr sum).1=true
 | f,[],fr,sum,h=>by rw [tA]; exact Pa sum h
 | 0,c :: s,fr,sum,_=>rfl
 | f + 1,c :: s,fr,sum,h=>by
  unfold oA
  split
  ·rfl
  ·split
   ·rfl
   ·split
    ·refine M5 f _ _ _ ?_
     have:=lI ((c :: s).takeWhile isD) (mW _) (Int.le_refl 0)
     rename_i z _ _
     have:=Int.mul_nonneg this (show (0:Int)≤z by omega)
     unfold m8; omega
    ·rfl
theorem Sj (s:Str):tmB (kV s).1=true:=by
 unfold kV; split
 ·rfl
 ·exact M5 _ _ _ _ (Int.le_refl 0)
def NoS (r:Str):Prop:=∀ c r',r=c :: r'→c ≠ 115
theorem JS {i:Nat}{n:Str}{k:Nat} (h:eC[i]?=some (n,k)) {r:Str} (hr:NoS r):fS (n ++ r)=some (i,n.length,k):=by
 have:i < 5:=(List.getElem?_eq_some_iff.1 h).1
 have:i=0 ∨ i=1 ∨ i=2 ∨ i=3 ∨ i=4:=by omega
 rcases this with rfl | rfl | rfl | rfl | rfl <;> simp only [eC,List.getElem?_cons_zero,List.getElem?_cons_succ,Option.some.injEq,Prod.mk.injEq] at h <;> obtain ⟨rfl,rfl⟩:=h
 ·rfl
 ·rfl
 ·rcases r with _ | ⟨c,r⟩
  ·rfl
  ·have:=hr c r rfl
   show fS (109 :: c :: r)=_
   unfold fS
   split
   ·rename_i h; cases h
   ·rename_i h; cases h
   ·rename_i h; cases h; exact absurd rfl this
   ·rfl
   ·rename_i h; cases h
   ·rename_i h1 h2 h3 h4 h5; exact absurd rfl (h4 _)
 ·rfl
 ·rfl
theorem KU (u:Nat):∃ c t,decDigits u=c :: t∧isD c=true:=by
 rcases hd:decDigits u with _ | ⟨c,t⟩
 ·exact absurd hd (u7 _)
 ·exact ⟨c,t,rfl,w4 u c (by rw [hd]; simp)⟩
theorem yP:∀ (l:List (Str × Nat)) (d:Nat),∀ c r',fZ l d=c :: r'→isD c=true
 | [],d,c,r',h=>by cases h
 | (n,k) :: l,d,c,r',h=>by
  unfold fZ at h
  by_cases hp:0 < d / k
  ·rw [if_pos hp] at h
   obtain ⟨c2,t,e,hc⟩:=KU (d / k)
   rw [e] at h
   cases h; exact hc
  ·rw [if_neg hp] at h
   exact yP l _ c r' h
theorem OP {i:Nat}{n:Str}{k:Nat} (h:eC[i]?=some (n,k)) (r:Str):∀ c r',n ++ r=c :: r'→isD c=false:=by
 have:i < 5:=(List.getElem?_eq_some_iff.1 h).1
 have:i=0 ∨ i=1 ∨ i=2 ∨ i=3 ∨ i=4:=by omega
 rcases this with rfl | rfl | rfl | rfl | rfl <;> simp only [eC,List.getElem?_cons_zero,List.getElem?_cons_succ,Option.some.injEq,Prod.mk.injEq] at h <;> obtain ⟨rfl,rfl⟩:=h <;> (intro c r' h; cases h; decide)
theorem y4 (i:Nat) (h:i < 5):∃ n k,eC[i]?=some (n,k)∧eC.drop i=(n,k) :: eC.drop (i + 1)∧1≤k∧(i=4→k=1):=by
 have:i=0 ∨ i=1 ∨ i=2 ∨ i=3 ∨ i=4:=by omega
 rcases this with rfl | rfl | rfl | rfl | rfl
 ·exact ⟨_,_,rfl,rfl,by decide,by decide⟩
 ·exact ⟨_,_,rfl,rfl,by decide,by decide⟩
 ·exact ⟨_,_,rfl,rfl,by decide,by decide⟩
 ·exact ⟨_,_,rfl,rfl,by decide,by decide⟩
 ·exact ⟨_,_,rfl,rfl,by decide,by decide⟩
theorem vY:∀ (j i d fr:Nat) (sum:Int),i + j=5→fr≤i→(i=5→d=0)→Am (fZ (eC.drop i) d) fr sum=oJ (sum + d)
 | 0,i,d,fr,sum,hi,_,h5=>by
  have:i=5:=by omega
  subst this
  rw [h5 rfl]
  show Am [] fr sum=_
  rw [Fq]; simp
 | j + 1,i,d,fr,sum,hi,hf,_=>by
  obtain ⟨n,k,hu,hd,hk,hk4⟩:=y4 i (by omega)
  rw [hd]
  unfold fZ
  have hlast:i + 1=5→d % k=0:=fun h=>by rw [hk4 (by omega)]; exact Nat.mod_one d
  by_cases hp:0 < d / k
  ·rw [if_pos hp]
   have hno:NoS (fZ (eC.drop (i + 1)) (d % k)):=fun c r' e hc=>by
    have:=yP _ _ c r' e
    rw [hc] at this; revert this; decide
   obtain ⟨c,t,e,hc⟩:=KU (d / k)
   rw [List.append_assoc,GR (by rw [e]; simp)]
   obtain ⟨s1,s2⟩:=EM (decDigits (d / k)) (n ++ fZ (eC.drop (i + 1)) (d % k)) (w4 _) (OP hu _)
   rw [s1,s2,if_neg (u7 _),JS hu hno]
   simp only
   rw [if_pos hf,List.drop_left,Ba,vY j (i + 1) (d % k) (i + 1) _ (by omega) (by omega) hlast]
   congr 1
   have:=Nat.div_add_mod d k
   have e2:((d:Nat):Int)=((k * (d / k) + d % k:Nat):Int):=by rw [this]
   rw [e2]
   have e3:((k * (d / k) + d % k:Nat):Int)=(k:Int) * ((d / k:Nat):Int) + ((d % k:Nat):Int):=by simp
   rw [e3,Int.mul_comm (k:Int),Int.add_assoc]
  ·rw [if_neg hp,List.nil_append,vY j (i + 1) (d % k) fr sum (by omega) (by omega) hlast]
   have:d / k=0:=Nat.le_zero.1 (Nat.not_lt.1 hp)
   have h2:=Nat.div_add_mod d k
   rw [this,Nat.mul_zero,Nat.zero_add] at h2
   rw [h2]
theorem E7 {v:Int} (h:tmB v=true):kV (printD v)=(v,0):=by
 have hv:=kK.1 h
 unfold printD
 rw [if_pos h]
 by_cases h0:v=0
 ·rw [if_pos h0,h0]; rfl
 ·rw [if_neg h0]
  have:=vY 5 0 v.toNat 0 0 rfl (by omega) (by omega)
  rw [List.drop_zero] at this
  rw [M1]
  split
  ·rename_i e
   rw [e] at this
   rw [Fq] at this
   exfalso
   unfold oJ at this
   rw [if_pos (by omega),if_pos (by omega)] at this
   have:=congrArg Prod.fst this
   simp only at this; omega
  ·rw [this]
   unfold oJ
   rw [if_pos (by omega)]
   congr 1; omega
end Go.Proofs.YthgenmkengbmmaaGreatDoor.AM
namespace Go.Proofs.YthgenmkengbmmaaGreatDoor.AM
open Go
theorem Jl (s:Str) (h:s.length≤100000000):uT s=some (min (m8 (s.takeWhile isD)) 9007199254740993,((s.takeWhile isD).length:Int)):=by
 unfold uT
 simp only [aZ]
 refine (eN (fun x:Int × Int=>(0≤x.1∧x.1≤9007199254740993)∧(0≤x.2∧x.2≤s.length)) (fun x=>s.length + 1 - x.2.toNat) (fun x=>(((s.drop x.2.toNat).takeWhile isD).foldl (BS 9007199254740993) x.1,x.2 + (((s.drop x.2.toNat).takeWhile isD).length:Int))) ?_ (by simp)).trans ?_
 ·rintro ⟨v,i⟩ ⟨hv,hi⟩
  simp only at hv hi ⊢
  obtain ⟨n,rfl⟩:=Int.eq_ofNat_of_zero_le hi.1
  simp only [aV,Int.toNat_natCast]
  by_cases hl:n < s.length
  ·rw [if_pos (by omega),bB (bO hl),dY hl,List.takeWhile_cons]
   by_cases h1:48≤(nth s n).toNat
   ·rw [if_pos (by omega)]
    by_cases h2:(nth s n).toNat≤57
    ·right
     rw [if_pos (by omega),if_pos (nG.2 ⟨h1,h2⟩)]
     rw [bF (show -9223372036854775808≤v * 10∧_ by omega)]
     have hu:IntKind.u8.wrap (((nth s n).toNat:Int) - 48)=((nth s n).toNat:Int) - 48:=by
      have:∃ k:Nat,k < 10∧(((nth s n).toNat:Int) - 48)=(k:Int):=⟨(nth s n).toNat - 48,by omega,by omega⟩
      obtain ⟨k,hk,e⟩:=this
      rw [e]
      have:k=0 ∨ k=1 ∨ k=2 ∨ k=3 ∨ k=4 ∨ k=5 ∨ k=6 ∨ k=7 ∨ k=8 ∨ k=9:=by omega
      rcases this with rfl | rfl | rfl | rfl | rfl | rfl | rfl | rfl | rfl | rfl <;> decide
     rw [hu,bF (show -9223372036854775808≤((nth s n).toNat:Int) - 48∧_ by omega),bF (by omega),bF (by omega)]
     refine ⟨(BS 9007199254740993 v (nth s n),((n + 1:Nat):Int)),by simp [BS,tM],⟨by simp only [BS,tM]; omega,by simp only; omega⟩,by simp only; omega,?_⟩
     simp only [Int.toNat_natCast,List.foldl_cons,List.length_cons,Prod.mk.injEq,true_and]
     omega
    ·left
     rw [if_neg (by omega),if_neg (fun h=>h2 (nG.1 h).2)]
     simp
   ·left
    rw [if_neg (by omega),if_neg (fun h=>h1 (nG.1 h).1)]
    simp
  ·left
   rw [if_neg (by omega),List.drop_eq_nil_of_le (by omega)]
   simp
 ·have:=BW (cap:=9007199254740993) (by omega) (s.takeWhile isD) (mW s) (Int.le_refl 0)
  simp only [show min (0:Int) 9007199254740993=0 from rfl] at this
  simp [this,m8]
theorem RE {a:Int}{k:Nat} (ha:0≤a):Int.tdiv a (k:Int)=a / (k:Int):=Int.tdiv_eq_ediv_of_nonneg ha
theorem TG {V:Int}{z:Nat} (hV:0≤V) (hz:1≤z):V≤V * z:=by
 have:=Int.mul_le_mul_of_nonneg_left (show (1:Int)≤(z:Int) by omega) hV
 omega
theorem FG {S V:Int}{z:Nat} (hS:0≤S∧S≤9007199254740993) (hV:0≤V) (hz:1≤z∧z≤86400000):w8 S (min V 9007199254740993) (z:Int)=some (min (S + V * z) 9007199254740993):=by
 unfold w8
 simp only [aZ,aV,bL]
 have hvz:=TG hV hz.1
 by_cases h1:9007199254740992 < S
 ·rw [if_pos h1]
  congr 1; omega
 rw [if_neg h1,aP (by omega),bF (show -9223372036854775808≤(9007199254740992 - S)∧_ by omega),RE (by omega)]
 have hq0:0≤(9007199254740992 - S) / (z:Int):=Int.ediv_nonneg (by omega) (by omega)
 have hq1:(9007199254740992 - S) / (z:Int)≤9007199254740992 - S:=Int.ediv_le_self _ (by omega)
 rw [bF (by omega)]
 have hiff:=Int.ediv_lt_iff_lt_mul (a:=9007199254740992 - S) (b:=V) (c:=(z:Int)) (by omega)
 by_cases h2:(9007199254740992 - S) / (z:Int) < min V 9007199254740993
 ·rw [if_pos h2]
  congr 1
  have:=hiff.1 (by omega)
  omega
 ·rw [if_neg h2]
  have h3:¬ (9007199254740992 - S) < V * z:=fun h=>by have:=hiff.2 h; omega
  rw [show min V 9007199254740993=V from by omega]
  rw [bF (show -9223372036854775808≤V * z∧_ by omega),bF (by omega)]
  congr 1; omega
theorem Gw:∀ (f:Nat) (s:Str) (fr:Nat) (S S':Int),min S 9007199254740993=min S' 9007199254740993→oA f s fr S=oA f s fr S'
 | f,[],fr,S,S',h=>by
  rw [tA,tA]; unfold oJ
  by_cases h1:S≤9007199254740992
  ·rw [if_pos h1,show S'=S by omega,if_pos h1]
  ·rw [if_neg h1,if_neg (by omega)]
 | 0,c :: s,fr,S,S',h=>rfl
 | f + 1,c :: s,fr,S,S',h=>by
  unfold oA
  split
  ·rfl
  ·split
   ·rfl
   ·rename_i k n z _
    split
    ·refine Gw f _ _ _ _ ?_
     have:=Int.mul_nonneg (lI _ (mW (c :: s)) (Int.le_refl 0)) (show (0:Int)≤z by omega)
     unfold m8; omega
    ·rfl
theorem Ok {s:Str}{fr:Nat}{S S':Int} (h:min S 9007199254740993=min S' 9007199254740993):Am s fr S=Am s fr S':=Gw _ _ _ _ _ h
theorem Hx (s p:Str) (h:s.length≤9223372036854775807):iO s p=some (decide (s.take p.length=p)):=by
 unfold iO
 rw [CK s p h,aD]; rfl
theorem Su (rest:Str) (i:Nat) (n:Str) (k:Nat) (h:eC[i]?=some (n,k)):(rest.take n.length=n∧¬ (n=[109]∧rest.take 2=[109,115])) ↔ fS rest=some (i,n.length,k):=by
  have:i < 5:=(List.getElem?_eq_some_iff.1 h).1
  have hi:i=0 ∨ i=1 ∨ i=2 ∨ i=3 ∨ i=4:=by omega
  rcases rest with _ | ⟨c,r⟩
  · rcases hi with rfl | rfl | rfl | rfl | rfl <;> simp only [eC,List.getElem?_cons_zero,List.getElem?_cons_succ,Option.some.injEq,Prod.mk.injEq] at h <;> obtain ⟨rfl,rfl⟩:=h <;> simp [fS]
  have key:fS (c :: r)=if c=100 then some (0,1,86400000) else if c=104 then some (1,1,3600000) else if c=109 then (if r.take 1=[115] then some (4,2,1) else some (2,1,60000)) else if c=115 then some (3,1,1000) else none:=by
    by_cases h1:c=100
    · subst h1; rfl
    by_cases h2:c=104
    · subst h2; rfl
    by_cases h3:c=109
    · subst h3
      rcases r with _ | ⟨d,r⟩
      · rfl
      · by_cases h4:d=115
        · subst h4; rfl
        · simp only [h1,h2,if_false,if_true,List.take_succ_cons,List.take_zero,List.cons.injEq,and_true,h4]
          unfold fS
          split
          · rename_i e; cases e
          · rename_i e; cases e
          · rename_i e; cases e; exact absurd rfl h4
          · rfl
          · rename_i e; cases e
          · rename_i _ _ e _; exact absurd rfl (e _)
    by_cases h4:c=115
    · subst h4; rfl
    · simp only [h1,h2,h3,h4,if_false]
      unfold fS
      split
      · rename_i e; cases e; exact absurd rfl h1
      · rename_i e; cases e; exact absurd rfl h2
      · rename_i e; cases e; exact absurd rfl h3
      · rename_i e; cases e; exact absurd rfl h3
      · rename_i e; cases e; exact absurd rfl h4
      · rfl
  rw [key]
  rcases hi with rfl | rfl | rfl | rfl | rfl <;> simp only [eC,List.getElem?_cons_zero,List.getElem?_cons_succ,Option.some.injEq,Prod.mk.injEq] at h <;> obtain ⟨rfl,rfl⟩:=h <;>
    (simp only [List.length_cons,List.length_nil,List.take_succ_cons,List.take_zero,List.cons.injEq,and_true]
     by_cases h1:c=100
     · subst h1; simp
     by_cases h2:c=104
     · subst h2; simp
     by_cases h3:c=109
     · subst h3
       by_cases h4:r.take 1=[115]
       · simp [h4]
       · simp [h4]
     by_cases h4:c=115
     · subst h4; simp
     · simp [h1,h2,h3,h4])
theorem NM {s:Str}{k n z:Nat} (h:fS s=some (k,n,z)):∃ nm,eC[k]?=some (nm,z)∧nm.length=n:=by
 unfold fS at h
 split at h <;> first | (cases h; done) | (simp only [Option.some.injEq,Prod.mk.injEq] at h; obtain ⟨rfl,rfl,rfl⟩:=h; exact ⟨_,rfl,rfl⟩)
theorem rT (s:Str) (h:s.length≤100000000):mP s=some (kV s):=by
 unfold mP
 simp only [aZ]
 refine (eN (fun x:Str × Int × Int × Bool=>x.1.length≤100000000∧(0≤x.2.1∧x.2.1≤9007199254740993)∧(0≤x.2.2.1∧x.2.2.1≤5)) (fun x=>x.1.length)
  (fun x=>if x.1=[]∧x.2.2.2=true then (0,1) else Am x.1 x.2.2.1.toNat x.2.1) ?_ (by refine ⟨h,?_,?_⟩ <;> simp)).trans ?_
 ·rintro ⟨t,sum,fr,first⟩ ⟨ht,hs,hf⟩
  simp only at ht hs hf ⊢
  obtain ⟨fr,rfl⟩:=Int.eq_ofNat_of_zero_le hf.1
  simp only [Int.toNat_natCast]
  by_cases hgo:first=true ∨ t ≠ []
  ·rw [show (bif first then true else !decide (t=[]))=true from by cases first <;> simp_all]
   simp only [aY]
   rw [Jl t ht,aD]
   simp only [aV]
   have e:=List.takeWhile_append_dropWhile (p:=isD) (l:=t)
   have hlen:=congrArg List.length e
   rw [List.length_append] at hlen
   have hdt:t.drop (t.takeWhile isD).length=t.dropWhile isD:=by
    conv=>lhs; arg 2; rw [← e]
    exact List.drop_left
   by_cases hds:t.takeWhile isD=[]
   ·left
    rw [if_pos (by rw [hds]; rfl)]
    by_cases h0:t=[]
    ·have hfi:first=true:=hgo.resolve_right (fun h=>h h0)
     rw [if_pos ⟨h0,hfi⟩]; rfl
    ·rw [if_neg (fun h=>h0 h.1),GR h0,if_pos hds]; rfl
   ·have hpos:0 < (t.takeWhile isD).length:=List.length_pos_iff.2 hds
    have h0:t ≠ []:=fun h=>by rw [h] at hds; exact hds rfl
    rw [if_neg (by omega),aP (by omega),if_neg (fun h=>h0 h.1),GR h0,if_neg hds]
    have hcut:(t.take t.length).drop (((t.takeWhile isD).length:Int)).toNat=t.dropWhile isD:=by simpa using hdt
    have hrest:(t.dropWhile isD).length≤100000000:=by omega
    have hstep:=@zU t
    simp only [hcut]
    generalize hrs:t.dropWhile isD=rest at *
    generalize hdg:t.takeWhile isD=ds at *
    have hval:0≤m8 ds:=by rw [← hdg]; exact lI _ (mW t) (Int.le_refl 0)
    rw [fV 5 (fun i=>match fS rest with
     | none=>Sum.inr ((0:Int),(1:Int))
     | some (k,n,z)=>if fr≤k∧i≤k then Sum.inl (rest.drop n,min (sum + m8 ds * z) 9007199254740993,(k:Int) + 1,false) else Sum.inr (0,1)) ?_ ?_]
    ·rcases hu:fS rest with _ | ⟨k,n,z⟩
     ·left; rfl
     ·simp only
      have hk:=uH hu
      by_cases h2:fr≤k
      ·right
       rw [if_pos ⟨h2,by omega⟩,if_pos h2]
       refine ⟨_,rfl,⟨?_,?_,?_⟩,?_,?_⟩
       ·simp only [List.length_drop]; omega
       ·have:=Int.mul_nonneg hval (show (0:Int)≤z by omega)
        simp only; omega
       ·simp only; omega
       ·have:=hstep hu hds
        simp only; omega
       ·simp only [Bool.false_eq_true,and_false,if_false]
        rw [show ((k:Int) + 1).toNat=k + 1 by omega]
        exact Ok (by omega)
      ·left
       rw [if_neg (fun h=>h2 h.1),if_neg h2]
    ·intro i hi
     obtain ⟨n,k,e1,_,_,hk,hn1,hn2⟩:=Mw i hi
     have hud:eC[i]?=some (n,k):=by
      have:i=0 ∨ i=1 ∨ i=2 ∨ i=3 ∨ i=4:=by omega
      rcases this with rfl | rfl | rfl | rfl | rfl <;> (cases e1; rfl)
     have hh:=Su rest i n k hud
     rw [if_pos (by omega),bB e1,bF (show -9223372036854775808≤(i:Int) + 1∧_ by omega),show (i:Int) + 1=((i + 1:Nat):Int) by omega]
     by_cases h1:(i:Int) < (fr:Int)
     ·right
      rw [if_pos h1]
      refine ⟨rfl,?_⟩
      rcases fS rest with _ | ⟨k',n',z'⟩
      ·rfl
      ·simp only
       by_cases h2:fr≤k'
       ·rw [if_pos ⟨h2,by omega⟩,if_pos ⟨h2,by omega⟩]
       ·rw [if_neg (fun h=>h2 h.1),if_neg (fun h=>h2 h.1)]
     ·rw [if_neg h1,Hx _ _ (by omega),aD,bK,aV]
      by_cases hit:fS rest=some (i,n.length,k)
      ·obtain ⟨g1,g2⟩:=hh.2 hit
       have hk2:=uH hit
       left
       rw [if_pos g1,hit]
       simp only
       rw [if_pos (show fr≤i∧i≤i from ⟨by omega,Nat.le_refl i⟩)]
       have hcd:(rest.take (rest.length:Int).toNat).drop ((n.length:Int)).toNat=rest.drop n.length:=by simp
       by_cases hm:n=[109]
       ·rw [if_pos hm,Hx _ _ (by omega),aD,aV,if_neg (show ¬ (rest.take ([109,115]:Str).length=[109,115]) from fun h=>g2 ⟨hm,h⟩),FG hs hval hk,aD,aP (by omega),List.take_length]
        simp
       ·rw [if_neg hm,FG hs hval hk,aD,aP (by omega),List.take_length]
        simp
      ·have hn:¬ (rest.take n.length=n∧¬ (n=[109]∧rest.take 2=[109,115])):=fun h=>hit (hh.1 h)
       right
       refine ⟨?_,?_⟩
       ·by_cases g1:rest.take n.length=n
        ·rw [if_pos g1]
         have g2:n=[109]∧rest.take 2=[109,115]:=Classical.byContradiction fun h=>hn ⟨g1,h⟩
         rw [if_pos g2.1,Hx _ _ (by omega),aD,aV,if_pos (show rest.take ([109,115]:Str).length=[109,115] from g2.2)]
         rfl
        ·rw [if_neg g1]; rfl
       ·have hkk:∀ k' n' z',fS rest=some (k',n',z')→k' ≠ i:=by
         intro k' n' z' hu he
         subst he
         obtain ⟨nm,g3,g4⟩:=NM hu
         rw [hud] at g3
         cases g3
         exact hit (by rw [hu,g4])
        rcases hu:fS rest with _ | ⟨k',n',z'⟩
        ·rfl
        ·have:=hkk k' n' z' hu
         simp only
         by_cases h3:fr≤k'∧i≤k'
         ·rw [if_pos h3,if_pos ⟨h3.1,by omega⟩]
         ·rw [if_neg h3,if_neg (fun h=>h3 ⟨h.1,by omega⟩)]
    ·rw [if_neg (by omega)]
     rcases hu:fS rest with _ | ⟨k',n',z'⟩
     ·rfl
     ·have:=uH hu
      try simp only
      rw [if_neg (by omega)]; rfl
  ·left
   have hf2:first=false:=by cases first <;> simp_all
   have ht2:t=[]:=Classical.byContradiction fun h=>hgo (.inr h)
   subst hf2; subst ht2
   simp only [Bool.false_eq_true,and_false,if_false,Fq]
   simp only [decide_true,Bool.not_true,cond_false,a6]
   rw [uE,aD,bK]
   unfold oJ
   by_cases h1:sum≤9007199254740992
   ·rw [if_pos h1,show tmB sum=true from kK.2 ⟨hs.1,h1⟩]; rfl
   ·rw [if_neg h1,show tmB sum=false from Bool.eq_false_iff.2 fun h=>h1 (kK.1 h).2]; rfl
 ·simp only [M1]
  simp
def isL (c:UInt8):Bool:=A4 (c.toNat:Int)
theorem gU (c:UInt8):oS (c.toNat:Int)=some (isL c):=by
 unfold oS isL A4
 simp only [aZ,jV,u4,bL]
theorem gM (c:UInt8):nZ (c.toNat:Int)=some (isD c):=by
 unfold nZ isD
 simp only [aZ,jV,bL]
 rw [show decide ((48:Int)≤(c.toNat:Int))=decide (48≤c.toNat) from by rw [decide_eq_decide]; omega,show decide ((c.toNat:Int)≤57)=decide (c.toNat≤57) from by rw [decide_eq_decide]; omega]
def isW (c:UInt8):Bool:=decide (c=32) || decide (c=9) || decide (c=13) || decide (c=10)
theorem yK (c:UInt8):uJ (c.toNat:Int)=some (isW c):=by
 unfold uJ isW
 simp only [aZ,u4,bL]
 have h1:=A5 c 32 (by decide)
 have h2:=A5 c 9 (by decide)
 have h3:=A5 c 13 (by decide)
 have h4:=A5 c 10 (by decide)
 simp only [Int.cast_ofNat_Int] at h1 h2 h3 h4
 rw [h1,h2,h3,h4]; rfl
theorem wP {σ β:Type}{ph:σ→List (Nat × AV)}{ob:σ→List Obj}{step:σ→Option (σ ⊕ β)}{s s':σ} (h:step s=some (.inl s')):bU ph ob step s=bU ph ob step s':=by
 unfold bU; rw [AF,h]; rfl
theorem m0 {σ β:Type}{ph:σ→List (Nat × AV)}{ob:σ→List Obj}{step:σ→Option (σ ⊕ β)}{s:σ}{r:β} (h:step s=some (.inr r)):bU ph ob step s=some r:=by
 unfold bU; rw [AF,h]; rfl
theorem Gr {s:Str}{a:Nat}{c:UInt8} (h:s[a]?=some c) (hs:s.length≤100000000) (hc:isW c=true):dV s (a:Int)=dV s ((a + 1:Nat):Int):=by
 have ha:=(List.getElem?_eq_some_iff.1 h).1
 refine wP ?_
 simp only [aZ,aV]
 rw [if_pos (by omega),bB h,yK,aD,hc,aY,bF (by omega)]
 rfl
theorem zL {s:Str}{a:Nat}{c:UInt8} (h:s[a]?=some c) (hc:isW c=false) (h35:c ≠ 35):dV s (a:Int)=some (a:Int):=by
 have ha:=(List.getElem?_eq_some_iff.1 h).1
 refine m0 ?_
 simp only [aZ,aV]
 have hk:=gR c 35 (by decide)
 simp only [Int.cast_ofNat_Int] at hk
 rw [if_pos (by omega),bB h,yK,aD,hc,a6,if_neg (fun e=>h35 (hk.1 e))]
 rfl
theorem Kw {s:Str}{a:Nat} (h:s.length≤a):dV s (a:Int)=some (a:Int):=by
 refine m0 ?_
 simp only [aZ,aV]
 rw [if_neg (by omega)]
 rfl
def isR (p:Bool) (c:UInt8):Bool:=isL c || isD c || (p && decide (c=46))
theorem BG (s:Str) (p:Bool) (hs:s.length≤100000000):nK s p=some (1 + ((s.drop 1).takeWhile (isR p)).length:Int):=by
 unfold nK
 simp only [aZ]
 refine (eN (fun x:Bool × Int=>x.1=p∧1≤x.2∧x.2≤s.length + 1) (fun x=>s.length + 2 - x.2.toNat) (fun x=>x.2 + (((s.drop x.2.toNat).takeWhile (isR x.1)).length:Int)) ?_ (by simp only; refine ⟨trivial,?_,?_⟩ <;> omega)).trans (by simp)
 rintro ⟨q,i⟩ ⟨hq,h0,h1⟩
 simp only at hq h0 h1 ⊢
 subst hq
 obtain ⟨n,rfl⟩:=Int.eq_ofNat_of_zero_le (show 0≤i by omega)
 simp only [aV,Int.toNat_natCast]
 by_cases hl:n < s.length
 ·rw [if_pos (by omega),bB (bO hl),gU,aD,dY hl,List.takeWhile_cons,gM]
  have hk:=A5 (nth s n) 46 (by decide)
  simp only [Int.cast_ofNat_Int] at hk
  have hk:decide (((nth s n).toNat:Int)=46)=decide (nth s n=46):=hk
  have hR:isR q (nth s n)=(isL (nth s n) || isD (nth s n) || (q && decide (nth s n=46))):=rfl
  have e:((n:Int) + 1)=((n + 1:Nat):Int):=by omega
  rw [bF (by omega),e,hR]
  rw [hk]
  generalize isL (nth s n)=b1
  generalize isD (nth s n)=b2
  generalize decide (nth s n=46)=b3
  have fin:∃ s':Bool × Int,(some (Sum.inl (q,((n + 1:Nat):Int))):Option (Bool × Int ⊕ Int))=some (.inl s')∧(s'.1=q∧1≤s'.2∧s'.2≤(s.length:Int) + 1)∧s.length + 2 - s'.2.toNat < s.length + 2 - n ∧
    s'.2 + (((s.drop s'.2.toNat).takeWhile (isR s'.1)).length:Int)=(n:Int) + ((nth s n :: (s.drop (n + 1)).takeWhile (isR q)).length:Int) :=
   ⟨(q,((n + 1:Nat):Int)),rfl,⟨rfl,by simp only; omega,by simp only; omega⟩,by simp only; omega,by simp only [Int.toNat_natCast,List.length_cons]; omega⟩
  cases q <;> cases b1 <;> cases b2 <;> cases b3 <;> first | (left; rfl) | (left; simp; done) | (right; exact fin) | skip
 ·left
  rw [if_neg (by omega),List.drop_eq_nil_of_le (by omega)]
  simp
theorem QA (v t:Str) (k:Nat):(dH v ++ t).drop (1 + ((v.take k).flatMap eG).length)=(v.drop k).flatMap eG ++ 34 :: t:=by
 unfold dH
 conv=>lhs; rw [← List.take_append_drop k v]
 rw [List.flatMap_append,List.take_append_drop]
 rw [show (34 :: ((v.take k).flatMap eG ++ (v.drop k).flatMap eG ++ [34]) ++ t:Str)=(34 :: (v.take k).flatMap eG) ++ ((v.drop k).flatMap eG ++ 34 :: t) from by simp]
 rw [List.drop_append_of_le_length (by simp; omega),List.drop_eq_nil_of_le (by simp; omega)]
 rfl
theorem Ju:∀ (v:Str),v.length≤(v.flatMap eG).length
 | []=>by simp
 | c :: v=>by
  rw [List.flatMap_cons,List.length_append,List.length_cons]
  have:=(E3 c).1
  have:=Ju v
  omega
theorem Ms (v t:Str) (h:(dH v ++ t).length≤100000000):mX (dH v ++ t)=some (v,((dH v).length:Int),0):=by
 have hD:=QA v t
 have hq:(dH v).length=2 + (v.flatMap eG).length:=by simp [dH]; omega
 rw [List.length_append] at h
 unfold mX
 generalize hs:dH v ++ t=s at *
 have hsl:s.length=(dH v).length + t.length:=by rw [← hs,List.length_append]
 simp only [aZ,fY,DN]
 refine eN (fun x:List Int × Int=>∃ k,k≤v.length∧x.2=1 + (((v.take k).flatMap eG).length:Int)∧x.1.length≤k∧d7 x.1=v.take k) (fun x=>s.length - x.2.toNat) (fun _=>(v,((dH v).length:Int),0)) ?_ ⟨0,by omega,by simp,by simp,rfl⟩
 rintro ⟨acc,i⟩ ⟨k,hk,hi,hal,hst⟩
 simp only at hi hal hst
 have hd:=hD k
 have hle:((v.take k).flatMap eG).length≤(v.flatMap eG).length:=by
  conv=>rhs; rw [← List.take_append_drop k v,List.flatMap_append,List.length_append]
  omega
 have hg:∀ j,s[1 + ((v.take k).flatMap eG).length + j]?=((v.drop k).flatMap eG ++ 34 :: t)[j]?:=fun j=>by rw [← hd,List.getElem?_drop]
 have hlen2:((v.take k).flatMap eG).length + ((v.drop k).flatMap eG).length=(v.flatMap eG).length:=by
  conv=>rhs; rw [← List.take_append_drop k v,List.flatMap_append,List.length_append]
 have hvl:=Ju v
 subst hi
 obtain ⟨n,hn⟩:∃ n,n=1 + ((v.take k).flatMap eG).length:=⟨_,rfl⟩
 rw [← hn] at hg
 simp only [show (1 + (((v.take k).flatMap eG).length:Int))=(n:Int) by omega,aV,bK]
 rcases Nat.lt_or_ge k v.length with hkv | hkv
 ·right
  rw [dY hkv] at hg hlen2
  rw [List.flatMap_cons] at hg hlen2
  rw [List.length_append] at hlen2
  have ht1:v.take (k + 1)=v.take k ++ [nth v k]:=by
   rw [List.take_succ,bO hkv]; rfl
  have hfl:(((v.take (k + 1)).flatMap eG).length:Int)=(((v.take k).flatMap eG).length:Int) + ((eG (nth v k)).length:Int):=by rw [ht1]; simp
  have hone:=E3 (nth v k)
  rw [if_pos (by omega)]
  generalize hc:nth v k=c at *
  by_cases k1:c=92
  ·subst k1
   have g0:s[n]?=some 92:=by have:=hg 0; simpa [eG] using this
   have g1:s[n + 1]?=some 92:=by have:=hg 1; simpa [eG] using this
   have hl2:(eG 92).length=2:=rfl
   rw [bB g0,if_neg (by decide),if_neg (by decide),if_pos (by decide),bF (by omega),if_neg (by omega),show (n:Int) + 1=((n + 1:Nat):Int) by omega,bB g1,if_pos (by decide),bB g1,aP (by simp; omega),bF (by omega)]
   refine ⟨_,rfl,⟨k + 1,by omega,by simp only; rw [hfl,hl2]; omega,by simp; omega,?_⟩,by simp only; omega,trivial⟩
   rw [iK,hst,ht1]; rfl
  by_cases k2:c=34
  ·subst k2
   have g0:s[n]?=some 92:=by have:=hg 0; simpa [eG] using this
   have g1:s[n + 1]?=some 34:=by have:=hg 1; simpa [eG] using this
   have hl2:(eG 34).length=2:=rfl
   rw [bB g0,if_neg (by decide),if_neg (by decide),if_pos (by decide),bF (by omega),if_neg (by omega),show (n:Int) + 1=((n + 1:Nat):Int) by omega,bB g1,if_neg (by decide),bB g1,if_pos (by decide),bB g1,aP (by simp; omega),bF (by omega)]
   refine ⟨_,rfl,⟨k + 1,by omega,by simp only; rw [hfl,hl2]; omega,by simp; omega,?_⟩,by simp only; omega,trivial⟩
   rw [iK,hst,ht1]; rfl
  by_cases k3:c=10
  ·subst k3
   have g0:s[n]?=some 92:=by have:=hg 0; simpa [eG] using this
   have g1:s[n + 1]?=some 110:=by have:=hg 1; simpa [eG] using this
   have hl2:(eG 10).length=2:=rfl
   rw [bB g0,if_neg (by decide),if_neg (by decide),if_pos (by decide),bF (by omega),if_neg (by omega),show (n:Int) + 1=((n + 1:Nat):Int) by omega,bB g1,if_neg (by decide),bB g1,if_neg (by decide),bB g1,if_pos (by decide),aP (by simp; omega),bF (by omega)]
   refine ⟨_,rfl,⟨k + 1,by omega,by simp only; rw [hfl,hl2]; omega,by simp; omega,?_⟩,by simp only; omega,trivial⟩
   rw [iK,hst,ht1]; rfl
  ·have he:eG c=[c]:=by unfold eG; rw [if_neg k1,if_neg k2,if_neg k3]
   have g0:s[n]?=some c:=by have:=hg 0; simpa [he] using this
   have u1:=gR c 34 (by decide)
   have u2:=gR c 10 (by decide)
   have u3:=gR c 92 (by decide)
   simp only [Int.cast_ofNat_Int] at u1 u2 u3
   have hl2:(eG c).length=1:=by rw [he]; rfl
   rw [bB g0,if_neg (fun e=>k2 (u1.1 e)),if_neg (fun e=>k3 (u2.1 e)),if_neg (fun e=>k1 (u3.1 e)),aP (by simp; omega),bF (by omega)]
   refine ⟨_,rfl,⟨k + 1,by omega,by simp only; rw [hfl,hl2]; omega,by simp; omega,?_⟩,by simp only; omega,trivial⟩
   rw [iK,hst,ht1,HV]
 ·left
  have hkk:k=v.length:=by omega
  subst hkk
  rw [List.take_length] at hst hn
  have g0:s[n]?=some 34:=by have:=hg 0; simpa using this
  rw [if_pos (by omega),bB g0,if_pos (by decide),bF (by omega),hst]
  simp only [bL,wM,Option.some.injEq,Sum.inr.injEq,Prod.mk.injEq,true_and,and_true]
  omega
theorem LQ {t:Str}{c:UInt8} (h:t[0]?=some c) (hc:isL c=true):dA t=some (1,0):=by
 unfold dA
 rw [iP (x:=c) (by omega) (by simpa using h),gU,aD,hc]; rfl
theorem N6 {t:Str}{c:UInt8} (h:t[0]?=some c) (hc:isL c=false) (hd:isD c=true):dA t=some (2,0):=by
 unfold dA
 rw [iP (x:=c) (by omega) (by simpa using h),gU,aD,hc,a6,gM,aD,hd]; rfl
theorem OD {t:Str}{d:UInt8} (h:t[0]?=some 45) (h1:t[1]?=some d) (hd:isD d=true):dA t=some (2,0):=by
 have hl:=(List.getElem?_eq_some_iff.1 h1).1
 unfold dA
 rw [iP (x:=45) (by omega) (by simpa using h),gU,aD,show isL 45=false from by decide,a6,gM,aD,show isD 45=false from by decide,a6]
 simp only [aZ]
 rw [show (bif decide (((45:UInt8).toNat:Int)=45) then decide ((1:Int) < (t.length:Int)) else false)=true from by
  rw [show decide (((45:UInt8).toNat:Int)=45)=true from by decide]; simp; omega]
 rw [aY,iP (x:=d) (by omega) (by simpa using h1),gM,aD,hd]; rfl
theorem LZ {t:Str} (h:t[0]?=some 34):dA t=some (3,0):=by
 unfold dA
 rw [iP (x:=34) (by omega) (by simpa using h),gU,aD,show isL 34=false from by decide,a6,gM,aD,show isD 34=false from by decide,a6]
 simp only [aZ]
 rw [show (bif decide (((34:UInt8).toNat:Int)=45) then decide ((1:Int) < (t.length:Int)) else false)=false from by
  rw [show decide (((34:UInt8).toNat:Int)=45)=false from by decide]; rfl]
 rfl
theorem JO {t:Str}{c:UInt8} (h:t[0]?=some c) (hc:isL c=false∧isD c=false∧c ≠ 45∧c ≠ 34∧¬ 0≤Lib.indexByte [61,33,60,62] c∧0≤Lib.indexByte [123,125,40,41,44,58,59,61,60,62] c):dA t=some (4,1):=by
 obtain ⟨h1,h2,h3,h4,h5,h6⟩:=hc
 have u1:=gR c 45 (by decide)
 have u2:=gR c 34 (by decide)
 simp only [Int.cast_ofNat_Int] at u1 u2
 unfold dA
 rw [iP (x:=c) (by omega) (by simpa using h),gU,aD,h1,a6,gM,aD,h2,a6]
 simp only [aZ]
 rw [show decide ((c.toNat:Int)=45)=false from by rw [decide_eq_false_iff_not]; exact fun e=>h3 (u1.1 e),show decide ((c.toNat:Int)=34)=false from by rw [decide_eq_false_iff_not]; exact fun e=>h4 (u2.1 e)]
 simp only [cond_false,a6]
 have hcc:(c.toNat:Int).toNat.toUInt8=c:=by simp
 unfold strings_IndexByte
 rw [hcc]
 simp only [aD,aV]
 rw [show decide ((0:Int)≤Lib.indexByte (bs [61,33,60,62]).data.toList c)=false from by rw [decide_eq_false_iff_not]; exact h5]
 simp only [cond_false,a6]
 have h6':0≤Lib.indexByte (bs [123,125,40,41,44,58,59,61,60,62]).data.toList c:=h6
 rw [if_pos h6']
 rfl
theorem KA {t:Str}{c:UInt8} (h:t[0]?=some c) (ht:t[1]?=some 61) (hc:isL c=false∧isD c=false∧c ≠ 45∧c ≠ 34∧0≤Lib.indexByte [61,33,60,62] c):dA t=some (4,2):=by
 obtain ⟨h1,h2,h3,h4,h5⟩:=hc
 have u1:=gR c 45 (by decide)
 have u2:=gR c 34 (by decide)
 simp only [Int.cast_ofNat_Int] at u1 u2
 have hl:=(List.getElem?_eq_some_iff.1 ht).1
 unfold dA
 rw [iP (x:=c) (by omega) (by simpa using h),gU,aD,h1,a6,gM,aD,h2,a6]
 simp only [aZ]
 rw [show decide ((c.toNat:Int)=45)=false from by rw [decide_eq_false_iff_not]; exact fun e=>h3 (u1.1 e),show decide ((c.toNat:Int)=34)=false from by rw [decide_eq_false_iff_not]; exact fun e=>h4 (u2.1 e)]
 simp only [cond_false,a6]
 have hcc:(c.toNat:Int).toNat.toUInt8=c:=by simp
 unfold strings_IndexByte
 rw [hcc]
 simp only [aD]
 rw [show decide ((0:Int)≤Lib.indexByte (bs [61,33,60,62]).data.toList c)=true from by rw [decide_eq_true_eq]; exact h5,show decide ((1:Int) < (t.length:Int))=true from by rw [decide_eq_true_eq]; omega]
 simp only [cond_true,aY]
 rw [iP (x:=61) (by omega) (by simpa using ht)]
 rfl
theorem Lo {t:Str}{c d:UInt8} (h:t[0]?=some c) (ht:t[1]?=some d) (hd:d ≠ 61) (hc:isL c=false∧isD c=false∧c ≠ 45∧c ≠ 34∧0≤Lib.indexByte [61,33,60,62] c∧0≤Lib.indexByte [123,125,40,41,44,58,59,61,60,62] c):dA t=some (4,1):=by
 obtain ⟨h1,h2,h3,h4,h5,h6⟩:=hc
 have u1:=gR c 45 (by decide)
 have u2:=gR c 34 (by decide)
 have u3:=gR d 61 (by decide)
 simp only [Int.cast_ofNat_Int] at u1 u2 u3
 have hl:=(List.getElem?_eq_some_iff.1 ht).1
 unfold dA
 rw [iP (x:=c) (by omega) (by simpa using h),gU,aD,h1,a6,gM,aD,h2,a6]
 simp only [aZ]
 rw [show decide ((c.toNat:Int)=45)=false from by rw [decide_eq_false_iff_not]; exact fun e=>h3 (u1.1 e),show decide ((c.toNat:Int)=34)=false from by rw [decide_eq_false_iff_not]; exact fun e=>h4 (u2.1 e)]
 simp only [cond_false,a6]
 have hcc:(c.toNat:Int).toNat.toUInt8=c:=by simp
 unfold strings_IndexByte
 rw [hcc]
 simp only [aD]
 rw [show decide ((0:Int)≤Lib.indexByte (bs [61,33,60,62]).data.toList c)=true from by rw [decide_eq_true_eq]; exact h5,show decide ((1:Int) < (t.length:Int))=true from by rw [decide_eq_true_eq]; omega]
 simp only [cond_true,aY]
 rw [iP (x:=d) (by omega) (by simpa using ht)]
 simp only [aV]
 have h6':0≤Lib.indexByte (bs [123,125,40,41,44,58,59,61,60,62]).data.toList c:=h6
 rw [if_neg (fun e=>hd (u3.1 e)),if_pos h6']
 rfl
noncomputable def w7 (a0:Str) (x2:(List aL) × Int):Option ((List aL) × Int ⊕ (List aL) × Int × Int) :=
 aA vI ((a0.length:Int)) fun x3=>
 aA vB (decide (x2.2 < x3)) fun x4=>
 aG x4 (
 aA vI ((x2.1.length:Int)) fun x5=>
 aA vB (decide (x5=(65536:Int))) fun x6=>
 aG x6 (
 a8<|
 aH (x2.1,x2.2,(4:Int))) (
 gdM (0≤x2.2∧x2.2≤(a0.length:Int)∧(a0.length:Int)≤(a0.length:Int))<|
 aA vS ((a0.take (a0.length:Int).toNat).drop x2.2.toNat) fun x7=>
 aN (fun x8=>.tup [vI x8.1,vI x8.2]) (fun x8=>[tk x2.1.length 3 74]) (dA x7) fun x8=>
 aA vB (decide (x8.1=(0:Int))) fun x9=>
 aG x9 (
 a8<|
 aH (x2.1,x2.2,(1:Int))) (
 aA vB (decide (x8.1=(3:Int))) fun x10=>
 aG x10 (
 gdM (0≤x2.2∧x2.2≤(a0.length:Int)∧(a0.length:Int)≤(a0.length:Int))<|
 aA vS ((a0.take (a0.length:Int).toNat).drop x2.2.toNat) fun x11=>
 aN (fun x12=>.tup [vS x12.1,vI x12.2.1,vI x12.2.2]) (fun x12=>[tk x2.1.length 3 74]) (mX x11) fun x12=>
 aA vB (!decide (x12.2.2=(0:Int))) fun x13=>
 aG x13 (
 aA vI (wI (x2.2 + x12.2.1)) fun x14=>
 a8<|
 aH (x2.1,x14,x12.2.2)) (
 aA (sx aB) ([(⟨x8.1,x2.2,x12.1⟩:aL)]:(List aL)) fun x15=>
 gdM ((x2.1.length + x15.length) * 32≤140737488355328)<|
 eU (so 0 aB) (fun x16=>[tk x16.length 3 74]) (x2.1 ++ x15) fun x16=>
 aA vI (wI (x2.2 + x12.2.1)) fun x17=>
 aN vI (fun x18=>[tk x16.length 3 74]) (dV a0 x17) fun x18=>
 bE (x16,x18))) (
 aA vB (decide (x8.1=(1:Int))) fun x19=>
 aG x19 (
 gdM (0≤x2.2∧x2.2≤(a0.length:Int)∧(a0.length:Int)≤(a0.length:Int))<|
 aA vS ((a0.take (a0.length:Int).toNat).drop x2.2.toNat) fun x20=>
 aA vB (decide (x8.1=(2:Int))) fun x21=>
 aN vI (fun x22=>[tk x2.1.length 3 74]) (nK x20 x21) fun x22=>
 aA vI (wI (x2.2 + x22)) fun x23=>
 gdM (0≤x2.2∧x2.2≤x23∧x23≤(a0.length:Int))<|
 aA vS ((a0.take x23.toNat).drop x2.2.toNat) fun x24=>
 aA (sx aB) ([(⟨x8.1,x2.2,x24⟩:aL)]:(List aL)) fun x25=>
 gdM ((x2.1.length + x25.length) * 32≤140737488355328)<|
 eU (so 0 aB) (fun x26=>[tk x26.length 3 74]) (x2.1 ++ x25) fun x26=>
 aA vI (wI (x2.2 + x22)) fun x27=>
 aN vI (fun x28=>[tk x26.length 3 74]) (dV a0 x27) fun x28=>
 bE (x26,x28)) (
 aA vB (decide (x8.1=(2:Int))) fun x29=>
 aG x29 (
 gdM (0≤x2.2∧x2.2≤(a0.length:Int)∧(a0.length:Int)≤(a0.length:Int))<|
 aA vS ((a0.take (a0.length:Int).toNat).drop x2.2.toNat) fun x30=>
 aA vB (decide (x8.1=(2:Int))) fun x31=>
 aN vI (fun x32=>[tk x2.1.length 3 74]) (nK x30 x31) fun x32=>
 aA vI (wI (x2.2 + x32)) fun x33=>
 gdM (0≤x2.2∧x2.2≤x33∧x33≤(a0.length:Int))<|
 aA vS ((a0.take x33.toNat).drop x2.2.toNat) fun x34=>
 aA (sx aB) ([(⟨x8.1,x2.2,x34⟩:aL)]:(List aL)) fun x35=>
 gdM ((x2.1.length + x35.length) * 32≤140737488355328)<|
 eU (so 0 aB) (fun x36=>[tk x36.length 3 74]) (x2.1 ++ x35) fun x36=>
 aA vI (wI (x2.2 + x32)) fun x37=>
 aN vI (fun x38=>[tk x36.length 3 74]) (dV a0 x37) fun x38=>
 bE (x36,x38)) (
 aA vI (wI (x2.2 + x8.2)) fun x39=>
 gdM (0≤x2.2∧x2.2≤x39∧x39≤(a0.length:Int))<|
 aA vS ((a0.take x39.toNat).drop x2.2.toNat) fun x40=>
 aA (sx aB) ([(⟨x8.1,x2.2,x40⟩:aL)]:(List aL)) fun x41=>
 gdM ((x2.1.length + x41.length) * 32≤140737488355328)<|
 eU (so 0 aB) (fun x42=>[tk x42.length 3 74]) (x2.1 ++ x41) fun x42=>
 aA vI (wI (x2.2 + x8.2)) fun x43=>
 aN vI (fun x44=>[tk x42.length 3 74]) (dV a0 x43) fun x44=>
 bE (x42,x44))))))) (
 a8<|
 aA vI ((a0.length:Int)) fun x45=>
 aH (x2.1,x45,(0:Int)))
theorem LE (a0:Str):oZ a0=aN vI (fun x1=>[]) (dV a0 (0:Int)) fun x1=>bU (fun (x2:(List aL) × Int)=>[(0,vS a0),(5,so 0 aB x2.1),(6,vI x2.2)]) (fun (x2:(List aL) × Int)=>[tk x2.1.length 3 74]) (w7 a0) (([]:List aL),x1):=rfl
inductive Lx:Str→Nat→List aL→Prop
 | nil (a:Nat):Lx [] a []
 | sp {c:UInt8}{t:Str}{a:Nat}{l:List aL} (hc:isW c=true) (h:Lx t (a + 1) l):Lx (c :: t) a l
 | run {w t:Str}{a:Nat}{l:List aL}{k:Int} (hk:k=1 ∨ k=2) (hw:∃ c w',w=c :: w'∧isW c=false∧c ≠ 35) (h1:dA (w ++ t)=some (k,0)) (h2:nK (w ++ t) (decide (k=2))=some (w.length:Int)) (h:Lx t (a + w.length) l):Lx (w ++ t) a (⟨k,a,w⟩ :: l)
 | text {v t:Str}{a:Nat}{l:List aL} (h:Lx t (a + (dH v).length) l):Lx (dH v ++ t) a (⟨3,a,v⟩ :: l)
 | sign {w t:Str}{a:Nat}{l:List aL} (hw:∃ c w',w=c :: w'∧isW c=false∧c ≠ 35) (h1:dA (w ++ t)=some (4,(w.length:Int))) (h:Lx t (a + w.length) l):Lx (w ++ t) a (⟨4,a,w⟩ :: l)
theorem BH {σ β α:Type}{ph:σ→List (Nat × AV)}{ob:σ→List Obj}{step:σ→Option (σ ⊕ β)}{s:σ}{enc:α→AV}{ob1 ob2:α→List Obj}{e:Option α}{g:α→σ} (h:step s=aN enc ob1 e fun x=>bE (g x)):bU ph ob step s=aN enc ob2 e fun x=>bU ph ob step (g x):=by
 unfold bU
 rw [AF,h]
 cases e <;> rfl
theorem SE (s:Str) (hs:s.length≤100000000) {t:Str}{a:Nat}{l:List aL} (h:Lx t a l):s.drop a=t→a≤s.length→∀ acc:List aL,acc.length + l.length≤60000 →
  (aN vI (fun x1=>[]) (dV s (a:Int)) fun x1=>bU (fun (x2:(List aL) × Int)=>[(0,vS s),(5,so 0 aB x2.1),(6,vI x2.2)]) (fun (x2:(List aL) × Int)=>[tk x2.1.length 3 74]) (w7 s) (acc,x1))=some (acc ++ l,(s.length:Int),0):=by
 induction h with
 | nil a=>
  intro hd ha acc hl
  have hal:s.length≤a:=by have:=congrArg List.length hd; simp at this; omega
  rw [Kw hal,aD]
  refine m0 ?_
  unfold w7
  simp only [aZ,aV]
  rw [if_neg (by omega)]
  simp
 | @sp c t a l hc h ih=>
  intro hd ha acc hl
  have g:s[a]?=some c:=by have:=congrArg (·[0]?) hd; simpa [List.getElem?_drop] using this
  have hlt:=(List.getElem?_eq_some_iff.1 g).1
  rw [Gr g hs hc]
  exact ih (by rw [← List.drop_drop,hd]; rfl) (by omega) acc hl
 | @run w t a l k hk hw h1 h2 h ih=>
  intro hd ha acc hl
  obtain ⟨c,w',rfl,hc1,hc2⟩:=hw
  have g:s[a]?=some c:=by have:=congrArg (·[0]?) hd; simpa [List.getElem?_drop] using this
  have hlt:=(List.getElem?_eq_some_iff.1 g).1
  rw [zL g hc1 hc2,aD]
  have hlen:s.length=a + ((c :: w').length + t.length):=by have:=congrArg List.length hd; rw [List.length_drop,List.length_append] at this; omega
  have ih2:=ih (by rw [← List.drop_drop,hd,List.drop_left]) (by omega) (acc ++ [⟨k,a,c :: w'⟩]) (by simp only [List.length_append,List.length_cons,List.length_nil] at hl ⊢; omega)
  rw [List.append_assoc] at ih2
  refine Eq.trans (BH (ob1:=fun _=>[]) ?_) ih2
  have hcut:(s.take (s.length:Int).toNat).drop (a:Int).toNat=c :: w' ++ t:=by simpa using hd
  unfold w7
  simp only [aZ,fY,aV]
  rw [if_pos (by omega),if_neg (by simp only [List.length_cons] at hl; omega),aP (by omega),hcut,h1,aD]
  have hpc:(s.take ((a:Int) + ((c :: w').length:Int)).toNat).drop (a:Int).toNat=c :: w':=by
   rw [Int.toNat_natCast,show ((a:Int) + ((c :: w').length:Int)).toNat=a + (c :: w').length by omega,List.drop_take,hd,show a + (c :: w').length - a=(c :: w').length by omega,List.take_left]
  rcases hk with rfl | rfl
  ·rw [if_neg (by decide),if_neg (by decide),if_pos rfl,aP (by omega),h2,aD,bF (by omega),aP (by omega),hpc,aP (by simp only [List.length_cons,List.length_nil] at hl ⊢; omega)]
   rw [show (a:Int) + ((c :: w').length:Int)=((a + (c :: w').length:Nat):Int) by omega]
   rfl
  ·rw [if_neg (by decide),if_neg (by decide),if_neg (by decide),if_pos rfl,aP (by omega),h2,aD,bF (by omega),aP (by omega),hpc,aP (by simp only [List.length_cons,List.length_nil] at hl ⊢; omega)]
   rw [show (a:Int) + ((c :: w').length:Int)=((a + (c :: w').length:Nat):Int) by omega]
   rfl
 | @text v t a l h ih=>
  intro hd ha acc hl
  have g:s[a]?=some 34:=by have:=congrArg (·[0]?) hd; simpa [List.getElem?_drop,dH] using this
  have hlt:=(List.getElem?_eq_some_iff.1 g).1
  rw [zL g (by decide) (by decide),aD]
  have hlen:s.length=a + ((dH v).length + t.length):=by have:=congrArg List.length hd; rw [List.length_drop,List.length_append] at this; omega
  have ih2:=ih (by rw [← List.drop_drop,hd,List.drop_left]) (by omega) (acc ++ [⟨3,a,v⟩]) (by simp only [List.length_append,List.length_cons,List.length_nil] at hl ⊢; omega)
  rw [List.append_assoc] at ih2
  refine Eq.trans (BH (ob1:=fun _=>[]) ?_) ih2
  have hcut:(s.take (s.length:Int).toNat).drop (a:Int).toNat=dH v ++ t:=by simpa using hd
  unfold w7
  simp only [aZ,fY,aV,bK]
  rw [if_pos (by omega),if_neg (by simp only [List.length_cons] at hl; omega),aP (by omega),hcut,LZ (t:=dH v ++ t) (by simp [dH]),aD]
  have hqq:(dH v ++ t).length≤100000000:=by rw [List.length_append]; omega
  dsimp only
  rw [if_neg (by decide),if_pos rfl,aP (by omega),Ms v t hqq,aD]
  dsimp only
  rw [if_pos rfl,aP (by simp only [List.length_cons,List.length_nil] at hl ⊢; omega),bF (by omega)]
  rw [show (a:Int) + ((dH v).length:Int)=((a + (dH v).length:Nat):Int) by omega]
  rfl
 | @sign w t a l hw h1 h ih=>
  intro hd ha acc hl
  obtain ⟨c,w',rfl,hc1,hc2⟩:=hw
  have g:s[a]?=some c:=by have:=congrArg (·[0]?) hd; simpa [List.getElem?_drop] using this
  have hlt:=(List.getElem?_eq_some_iff.1 g).1
  rw [zL g hc1 hc2,aD]
  have hlen:s.length=a + ((c :: w').length + t.length):=by have:=congrArg List.length hd; rw [List.length_drop,List.length_append] at this; omega
  have ih2:=ih (by rw [← List.drop_drop,hd,List.drop_left]) (by omega) (acc ++ [⟨4,a,c :: w'⟩]) (by simp only [List.length_append,List.length_cons,List.length_nil] at hl ⊢; omega)
  rw [List.append_assoc] at ih2
  refine Eq.trans (BH (ob1:=fun _=>[]) ?_) ih2
  have hcut:(s.take (s.length:Int).toNat).drop (a:Int).toNat=(c :: w') ++ t:=by simpa using hd
  unfold w7
  simp only [aZ,fY,aV,bK]
  rw [if_pos (by omega),if_neg (by simp only [List.length_cons] at hl; omega),aP (by omega),hcut,h1,aD]
  have hpc:(s.take ((a:Int) + ((c :: w').length:Int)).toNat).drop (a:Int).toNat=c :: w':=by
   rw [Int.toNat_natCast,show ((a:Int) + ((c :: w').length:Int)).toNat=a + (c :: w').length by omega,List.drop_take,hd,show a + (c :: w').length - a=(c :: w').length by omega,List.take_left]
  dsimp only
  rw [if_neg (by decide),if_neg (by decide),if_neg (by decide),if_neg (by decide),bF (by omega),aP (by omega),hpc,aP (by simp only [List.length_cons,List.length_nil] at hl ⊢; omega)]
  rw [show (a:Int) + ((c :: w').length:Int)=((a + (c :: w').length:Nat):Int) by omega]
  rfl
theorem F8 (s:Str) (hs:s.length≤100000000) {l:List aL} (h:Lx s 0 l) (hl:l.length≤60000):oZ s=some (l,(s.length:Int),0):=by
 rw [LE]
 have:=SE s hs h (by simp) (by omega) [] (by simpa using hl)
 simpa using this
abbrev Kt:=Int × Str
inductive Pr (α:Type) | er (t:List Kt) (e:Int) | ok (a:α) (t:List Kt)
def isT (k:Int) (s:Str):List Kt→Bool
 | []=>false
 | x :: _=>decide (x.1=k) && decide (x.2=s)
def wrE:List Kt→Int
 | []=>3
 | _ :: _=>1
def wr {α:Type} (t:List Kt):Pr α:=.er t (wrE t)
def jS:List Kt→Pr Str
 | []=>.er [] 3
 | x :: r=>if x.1=1 then (if cP x.2 then .ok x.2 r else .er (x :: r) 7) else .er (x :: r) 1
def rW (n:Nat) (nm:Str) (nt:Bool):List Kt→Pr bI
 | []=>.er [] 3
 | x :: r=>if x.1=3 then (if 64 < x.2.length ∨ 8≤n then .er (x :: r) 4 else .ok ⟨nm,x.2,nt⟩ r) else .er (x :: r) 1
def mB (n:Nat) (t:List Kt):Pr bI :=
 match jS t with
 | .er u e=>.er u e
 | .ok nm u=>if isT 4 [33,61] u then rW n nm true u.tail else if isT 4 [61] u then rW n nm false u.tail else wr u
def mV (nm:Str):Nat→List bI→List Kt→Pr cN
 | 0,acc,t=>match mB acc.length t with
  | .er u e=>.er u e
  | .ok _ _=>.er t 4
 | f + 1,acc,t=>match mB acc.length t with
  | .er u e=>.er u e
  | .ok m u=>if isT 4 [125] u then .ok ⟨nm,acc ++ [m]⟩ u.tail else if isT 4 [44] u then mV nm f (acc ++ [m]) u.tail else wr u
def vQ (t:List Kt):Pr cN :=
 match jS t with
 | .er u e=>.er u e
 | .ok nm u=>if isT 4 [123] u then (if isT 4 [125] u.tail then .ok ⟨nm,[]⟩ u.tail.tail else mV nm 8 [] u.tail) else .ok ⟨nm,[]⟩ u
def opB (s:Str):Int:=if s=[62] then 1 else if s=[62,61] then 2 else if s=[60] then 3 else if s=[60,61] then 4 else if s=[61,61] then 5 else if s=[33,61] then 6 else 0
def opP:List Kt→Int
 | []=>0
 | x :: _=>if x.1=4 then opB x.2 else 0
def sW (s:cN) (k:Int):List Kt→Pr bX
 | []=>.er [] 3
 | x :: r=>if x.1=2 then (if (pK x.2).2=0 then .ok ⟨s,k,(pK x.2).1⟩ r else .er (x :: r) (pK x.2).2) else .er (x :: r) 1
def oG (t:List Kt):Pr bX :=
 match vQ t with
 | .er u e=>.er u e
 | .ok s u=>if opP u=0 then wr u else sW s (opP u) u.tail
def yS:Nat→bX→List Kt→Pr bX
 | 0,x,t=>.ok x t
 | n + 1,x,t=>if isT 4 [41] t then yS n x t.tail else wr t
def fL:Nat→List Kt→Pr bX
 | 0,t=>if isT 4 [40] t then .er t 8 else oG t
 | f + 1,t=>if isT 4 [40] t then (match fL f t.tail with
   | .er u e=>.er u e
   | .ok x u=>if isT 4 [41] u then .ok x u.tail else wr u) else oG t
def wD (t:List Kt):Pr bX:=fL 32 t
def eX:List Kt→Pr Int
 | []=>.er [] 3
 | x :: r=>if x.1=2 then (if (kV x.2).2=0 then .ok (kV x.2).1 r else .er (x :: r) (kV x.2).2) else .er (x :: r) 1
def rY (w:Str) (t:List Kt):Pr Int:=if isT 1 w t then eX t.tail else .ok 0 t
def kZ:List Kt→Pr aQ
 | []=>.er [] 3
 | w :: t1=>if w.1=1 then (if isT 4 [61] t1 then (match t1.tail with
   | []=>.er [] 3
   | x :: t3=>if x.1=3 then .ok (⟨w.2,x.2⟩:aQ) t3 else .er (x :: t3) 1) else wr t1) else .er (w :: t1) 1
def lS:Nat→List aQ→List Kt→Pr (List aQ)
 | 0,_,t=>.er t 0
 | f + 1,acc,t=>match kZ t with
  | .er u e=>.er u e
  | .ok p u=>if isT 4 [125] u then .ok (acc ++ [p]) u else if isT 4 [44] u then lS f (acc ++ [p]) u.tail else wr u
def pW (acc:List aQ) (t:List Kt):Pr (List aQ):=lS (t.length + 1) acc t
def kW:Str:=[102,111,114]
def jE:Str:=[107,101,101,112]
def kG:Str:=[108,97,98,101,108,115]
def m7:Str:=[114,117,108,101]
def t6 (l:List aQ) (u:List Kt):Pr (List aQ) :=
 if (gT l).2=0 then (if (gT l).1.any (fun p=>Bl p.1) then .er u 7 else .ok (gT l).1 u.tail) else .er u (gT l).2
def jU (t:List Kt):Pr (List aQ) :=
 if isT 4 [123] t then (match (if isT 4 [125] t.tail then .ok [] t.tail else pW [] t.tail) with
  | .er u e=>.er u e
  | .ok l u=>t6 l u) else wr t
def kJ (t:List Kt):Pr (List aQ):=if isT 1 kG t then jU t.tail else .ok [] t
def sC (nm:Str) (x:bX) (t:List Kt):Pr aR :=
 match rY kW t with
 | .er u e=>.er u e
 | .ok fr t1=>match rY jE t1 with
  | .er u e=>.er u e
  | .ok kp t2=>match kJ t2 with
   | .er u e=>.er u e
   | .ok l t3=>if isT 4 [59] t3 then .ok ⟨nm,x,fr,kp,l⟩ t3.tail else wr t3
def jC (t:List Kt):Pr aR :=
 if isT 1 m7 t then (match jS t.tail with
  | .er u e=>.er u e
  | .ok nm t1=>if isT 4 [58] t1 then (match wD t1.tail with
    | .er u e=>.er u e
    | .ok x t2=>sC nm x t2) else wr t1) else wr t
structure bC {α:Type} (t:List Kt) (r:Pr α) (Q:α→Prop) (m:Nat):Prop where
 er:∀ u e,r=.er u e→u.length≤t.length∧(∃ p,t=p ++ u)∧(e=3 ↔ u=[])∧e ≠ 0
 ok:∀ a u,r=.ok a u→u.length + m≤t.length∧(∃ p,t=p ++ u)∧Q a
theorem bC.erI {α:Type}{t u p:List Kt}{e:Int}{Q:α→Prop}{m:Nat} (hp:t=p ++ u) (h:e=3 ↔ u=[]) (h0:e ≠ 0):bC t (.er u e:Pr α) Q m :=
 ⟨fun u' e' h1=>by cases h1; exact ⟨by rw [hp,List.length_append]; omega,⟨p,hp⟩,h,h0⟩,fun _ _ h1=>by cases h1⟩
theorem bC.okI {α:Type}{t u p:List Kt}{a:α}{Q:α→Prop}{m:Nat} (hp:t=p ++ u) (hm:m≤p.length) (hq:Q a):bC t (.ok a u:Pr α) Q m :=
 ⟨fun _ _ h1=>(by cases h1),fun a' u' h1=>by cases h1; exact ⟨by rw [hp,List.length_append]; omega,⟨p,hp⟩,hq⟩⟩
theorem bC.wrI {α:Type}{t u p:List Kt}{Q:α→Prop}{m:Nat} (hp:t=p ++ u):bC t (wr u:Pr α) Q m :=
 bC.erI hp (by cases u <;> simp [wrE]) (by cases u <;> simp [wrE])
theorem bC.front {α:Type}{t u p:List Kt}{r:Pr α}{Q:α→Prop}{m k:Nat} (hp:t=p ++ u) (hk:k≤p.length + m) (h:bC u r Q m):bC t r Q k :=
  ⟨fun v e h1=>by obtain ⟨a,⟨q,b⟩,c⟩:=h.er v e h1; exact ⟨by rw [hp,List.length_append]; omega,⟨p ++ q,by rw [hp,b,List.append_assoc]⟩,c⟩,
   fun x v h1=>by obtain ⟨a,⟨q,b⟩,c⟩:=h.ok x v h1; exact ⟨by rw [hp,List.length_append]; omega,⟨p ++ q,by rw [hp,b,List.append_assoc]⟩,c⟩⟩
theorem bC.split {α:Type}{t:List Kt}{r:Pr α}{Q:α→Prop}{m:Nat} (h:bC t r Q m) :
  (∃ u e p,r=.er u e∧t=p ++ u∧(e=3 ↔ u=[])∧e ≠ 0) ∨ (∃ a u p,r=.ok a u∧t=p ++ u∧m≤p.length∧Q a):=by
 cases r with
 | er u e=>obtain ⟨_,⟨p,b⟩,c⟩:=h.er u e rfl; exact .inl ⟨u,e,p,rfl,b,c⟩
 | ok a u=>
  obtain ⟨h1,⟨p,b⟩,c⟩:=h.ok a u rfl
  have:t.length=p.length + u.length:=by rw [b,List.length_append]
  exact .inr ⟨a,u,p,rfl,b,by omega,c⟩
theorem bC.mono {α:Type}{t:List Kt}{r:Pr α}{Q R:α→Prop}{m k:Nat} (h:bC t r Q m) (hq:∀ a,Q a→R a) (hk:k≤m):bC t r R k :=
 ⟨h.er,fun a u e=>by obtain ⟨x,y,z⟩:=h.ok a u e; exact ⟨by omega,y,hq a z⟩⟩
theorem s8 {k:Int}{s:Str}{t:List Kt} (h:isT k s t=true):t=(k,s) :: t.tail:=by
 rcases t with _ | ⟨⟨a,b⟩,t⟩
 ·cases h
 ·simp only [isT,Bool.and_eq_true,decide_eq_true_eq] at h
  obtain ⟨rfl,rfl⟩:=h; rfl
theorem dL {k:Int}{s:Str}{t:List Kt} (h:isT k s t=true):t=[(k,s)] ++ t.tail:=s8 h
theorem oO (x:Kt) (t:List Kt):x :: t=[x] ++ t:=rfl
theorem bQ (t:List Kt):t=[] ++ t:=rfl
theorem eH (k:Int) (s:Str) (t:List Kt):isT k s ((k,s) :: t)=true:=by simp [isT]
theorem lT {k k2:Int}{s s2:Str} (t:List Kt) (h:s2 ≠ s ∨ k2 ≠ k):isT k s ((k2,s2) :: t)=false:=by
 simp only [isT,Bool.and_eq_false_iff,decide_eq_false_iff_not]
 rcases h with h | h
 ·exact .inr h
 ·exact .inl h
theorem mR (t:List Kt):bC t (jS t) (fun s=>cP s=true) 1:=by
 rcases t with _ | ⟨x,r⟩
 ·exact bC.erI (bQ _) (by simp) (by simp)
 ·simp only [jS]
  split
  ·split
   ·exact bC.okI (oO _ _) (by simp) (by assumption)
   ·exact bC.erI (bQ _) (by simp) (by simp)
  ·exact bC.erI (bQ _) (by simp) (by simp)
theorem Ic (n:Nat) (nm:Str) (nt:Bool) (h:cP nm=true) (t:List Kt):bC t (rW n nm nt t) (fun m=>mOk m=true∧n < 8) 1:=by
 rcases t with _ | ⟨x,r⟩
 ·exact bC.erI (bQ _) (by simp) (by simp)
 ·simp only [rW]
  split
  ·split
   ·exact bC.erI (bQ _) (by simp) (by simp)
   ·rename_i h2
    exact bC.okI (oO _ _) (by simp) ⟨by unfold mOk; rw [h]; simp; omega,by omega⟩
  ·exact bC.erI (bQ _) (by simp) (by simp)
theorem zS (n:Nat) (t:List Kt):bC t (mB n t) (fun m=>mOk m=true∧n < 8) 3:=by
 unfold mB
 rcases (mR t).split with ⟨u',e,p,hr,hp,h3,h0⟩ | ⟨nm,u,p,hr,hp,hl,hn⟩ <;> rw [hr] <;> dsimp only
 ·exact bC.erI hp h3 h0
 refine bC.front (m:=2) hp (by omega) ?_
 split
 ·rename_i h; exact (Ic n nm true hn _).front (dL h) (by simp)
 ·split
  ·rename_i h; exact (Ic n nm false hn _).front (dL h) (by simp)
  ·exact bC.wrI (bQ _)
theorem Ip (nm:Str) (hn:cP nm=true):∀ (f:Nat) (acc:List bI) (t:List Kt),acc.length + f=8→acc.all mOk=true→bC t (mV nm f acc t) (fun s=>lX s=true) 1
 | 0,acc,t,hl,ha=>by
  unfold mV
  have h:=zS acc.length t
  cases hm:mB acc.length t with
  | er u e=>obtain ⟨_,⟨p,b⟩,c⟩:=h.er u e hm; exact bC.erI b c.1 c.2
  | ok m u=>have:=(h.ok m u hm).2.2.2; omega
 | f + 1,acc,t,hl,ha=>by
  unfold mV
  rcases (zS acc.length t).split with ⟨u',e,p,hr,hp,h3,h0⟩ | ⟨m,u,p,hr,hp,hl,hm⟩ <;> rw [hr] <;> dsimp only
  ·exact bC.erI hp h3 h0
  refine bC.front (m:=0) hp (by omega) ?_
  have ha2:(acc ++ [m]).all mOk=true:=by rw [List.all_append,ha]; simp [hm.1]
  split
  ·rename_i h
   refine bC.okI (dL h) (by simp) ?_
   unfold lX
   rw [hn,ha2]; simp; omega
  ·split
   ·rename_i h
    exact (Ip nm hn f (acc ++ [m]) u.tail (by simp; omega) ha2).front (dL h) (by simp)
   ·exact bC.wrI (bQ _)
theorem Ia (t:List Kt):bC t (vQ t) (fun s=>lX s=true) 1:=by
 unfold vQ
 rcases (mR t).split with ⟨u',e,p,hr,hp,h3,h0⟩ | ⟨nm,u,p,hr,hp,hl,hn⟩ <;> rw [hr] <;> dsimp only
 ·exact bC.erI hp h3 h0
 refine bC.front (m:=0) hp (by omega) ?_
 have h0:lX ⟨nm,[]⟩=true:=by unfold lX; rw [hn]; rfl
 split
 ·rename_i h
  split
  ·rename_i h2
   exact (bC.okI (Q:=fun s=>lX s=true) (dL h2) (m:=0) (by simp) h0).front (dL h) (by simp)
  ·exact (Ip nm hn 8 [] u.tail rfl rfl).front (dL h) (by simp)
 ·exact bC.okI (bQ _) (by simp) h0
theorem Uq (s:Str):0≤opB s∧opB s≤6:=by
 unfold opB
 repeat' split
 all_goals omega
theorem PC (t:List Kt):0≤opP t∧opP t≤6:=by
 rcases t with _ | ⟨x,r⟩
 ·simp [opP]
 ·simp only [opP]; split
  ·exact Uq _
  ·omega
theorem MP (b:Bool) {x:Int} (h:0≤x):qV (s7 b x).1=true∧((s7 b x).2=0 ∨ (s7 b x).2=2):=by
 unfold s7
 split
 ·cases b
  ·exact ⟨qS.2 (by simp; omega),.inl rfl⟩
  ·exact ⟨qS.2 (by simp; omega),.inl rfl⟩
 ·exact ⟨rfl,.inr rfl⟩
theorem S0 (s:Str):qV (pK s).1=true∧((pK s).2=0 ∨ (pK s).2=1 ∨ (pK s).2=2):=by
 unfold pK
 split
 ·split
  ·exact ⟨rfl,.inr (.inl rfl)⟩
  ·have:=MP (kD s).2 (Int.mul_nonneg (lI _ (mW (kD s).1) (Int.le_refl 0)) (show (0:Int)≤1000 by omega))
   refine ⟨this.1,?_⟩
   rcases this.2 with h | h
   ·exact .inl h
   ·exact .inr (.inr h)
 ·rename_i c r _
  split
  ·rename_i h
   have hall:∀ d ∈ (kD s).1.takeWhile isD ++ r,isD d=true:=by
    intro d hd
    rcases List.mem_append.1 hd with hd | hd
    ·exact mW _ d hd
    ·have e:=List.takeWhile_append_dropWhile (p:=isD) (l:=r)
     rw [h.2.2.1,List.append_nil] at e
     rw [← e] at hd
     exact mW _ d hd
   have:=MP (kD s).2 (Int.mul_nonneg (lI _ hall (Int.le_refl 0)) (Int.pow_nonneg (m:=3 - r.length) (show (0:Int)≤10 by omega)))
   refine ⟨this.1,?_⟩
   rcases this.2 with h | h
   ·exact .inl h
   ·exact .inr (.inr h)
  ·exact ⟨rfl,.inr (.inl rfl)⟩
theorem KF:∀ (f:Nat) (s:Str) (fr:Nat) (sum:Int),(oA f s fr sum).2=0 ∨ (oA f s fr sum).2=1 ∨ (oA f s fr sum).2=2
 | f,[],fr,sum=>by
  rw [tA]; unfold oJ
  split
  ·exact .inl rfl
  ·exact .inr (.inr rfl)
 | 0,c :: s,fr,sum=>.inr (.inl rfl)
 | f + 1,c :: s,fr,sum=>by
  unfold oA
  split
  ·exact .inr (.inl rfl)
  ·split
   ·exact .inr (.inl rfl)
   ·split
    ·exact KF f _ _ _
    ·exact .inr (.inl rfl)
theorem Rd (s:Str):(kV s).2=0 ∨ (kV s).2=1 ∨ (kV s).2=2:=by
 unfold kV
 split
 ·exact .inr (.inl rfl)
 ·exact KF _ _ _ _
theorem O7 (s:cN) (k:Int) (hs:lX s=true) (hk:1≤k∧k≤6) (t:List Kt):bC t (sW s k t) (fun x=>jW x=true) 1:=by
 rcases t with _ | ⟨x,r⟩
 ·exact bC.erI (bQ _) (by simp) (by simp)
 ·simp only [sW]
  have hn:=S0 x.2
  split
  ·split
   ·refine bC.okI (oO _ _) (by simp) ?_
    unfold jW
    rw [hs,hn.1]; simp; omega
   ·rename_i h
    exact bC.erI (bQ _) (by simp; omega) h
  ·exact bC.erI (bQ _) (by simp) (by simp)
theorem Lf {t:List Kt} (h:opP t ≠ 0):∃ x,t=[x] ++ t.tail:=by
 rcases t with _ | ⟨x,r⟩
 ·exact absurd rfl h
 ·exact ⟨x,rfl⟩
theorem En (t:List Kt):bC t (oG t) (fun x=>jW x=true) 3:=by
 unfold oG
 rcases (Ia t).split with ⟨u',e,p,hr,hp,h3,h0⟩ | ⟨s,u,p,hr,hp,hl,hs⟩ <;> rw [hr] <;> dsimp only
 ·exact bC.erI hp h3 h0
 refine bC.front (m:=2) hp (by omega) ?_
 split
 ·exact bC.wrI (bQ _)
 ·rename_i h
  obtain ⟨x,e⟩:=Lf h
  have:=PC u
  exact (O7 s (opP u) hs (by omega) u.tail).front e (by simp)
theorem yI:∀ (f:Nat) (t:List Kt),bC t (fL f t) (fun x=>jW x=true) 3
 | 0,t=>by
  unfold fL
  split
  ·rename_i h
   refine bC.erI (bQ _) ?_ (by simp)
   rw [s8 h]; simp
  ·exact En t
 | f + 1,t=>by
  unfold fL
  split
  ·rename_i h
   refine bC.front (dL h) (m:=3) (by simp) ?_
   rcases (yI f t.tail).split with ⟨u',e,p,hr,hp,h3,h0⟩ | ⟨x,u,p,hr,hp,hl,hx⟩ <;> rw [hr] <;> dsimp only
   ·exact bC.erI hp h3 h0
   refine bC.front (m:=0) hp (by omega) ?_
   split
   ·rename_i h2; exact bC.okI (dL h2) (by simp) hx
   ·exact bC.wrI (bQ _)
  ·exact En t
theorem uK (t:List Kt):bC t (eX t) (fun x=>tmB x=true) 1:=by
 rcases t with _ | ⟨x,r⟩
 ·exact bC.erI (bQ _) (by simp) (by simp)
 ·simp only [eX]
  have hn:=Rd x.2
  split
  ·split
   ·exact bC.okI (oO _ _) (by simp) (Sj _)
   ·rename_i h
    exact bC.erI (bQ _) (by simp; omega) h
  ·exact bC.erI (bQ _) (by simp) (by simp)
theorem C3 (w:Str) (t:List Kt):bC t (rY w t) (fun x=>tmB x=true) 0:=by
 unfold rY
 split
 ·rename_i h; exact (uK _).front (dL h) (by simp)
 ·exact bC.okI (bQ _) (by simp) rfl
theorem wV (t:List Kt):bC t (kZ t) (fun _=>True) 3:=by
 rcases t with _ | ⟨x,r⟩
 ·exact bC.erI (bQ _) (by simp) (by simp)
 ·simp only [kZ]
  split
  ·split
   ·rename_i h
    rcases hr:r.tail with _ | ⟨y,r2⟩
    ·refine bC.erI (p:=[x,(4,[61])]) ?_ (by simp) (by simp)
     rw [s8 h,hr]; rfl
    ·simp only
     split
     ·refine bC.okI (p:=[x,(4,[61]),y]) ?_ (by simp) trivial
      rw [s8 h,hr]; rfl
     ·refine bC.erI (p:=[x,(4,[61])]) ?_ (by simp) (by simp)
      rw [s8 h,hr]; rfl
   ·exact bC.wrI (oO _ _)
  ·exact bC.erI (bQ _) (by simp) (by simp)
theorem Eo:∀ (f:Nat) (acc:List aQ) (t:List Kt),t.length < f→bC t (lS f acc t) (fun _=>True) 3
 | 0,_,_,h=>by omega
 | f + 1,acc,t,h=>by
  unfold lS
  have hp:=wV t
  cases hm:kZ t with
  | er u e=>obtain ⟨_,⟨p,b⟩,c⟩:=hp.er u e hm; exact bC.erI b c.1 c.2
  | ok m u=>
   obtain ⟨h1,⟨p,b⟩,_⟩:=hp.ok m u hm
   have hl:t.length=p.length + u.length:=by rw [b,List.length_append]
   simp only
   split
   ·exact bC.okI b (by omega) trivial
   ·split
    ·rename_i h2
     have h3:=congrArg List.length (dL h2)
     rw [List.length_append] at h3
     refine bC.front (p:=p ++ [(4,[44])]) ?_ (m:=3) (by simp) (Eo f (acc ++ [m]) u.tail (by omega))
     rw [List.append_assoc,← dL h2]; exact b
    ·exact bC.wrI b
theorem zT:∀ (f g:Nat) (acc:List aQ) (t:List Kt),t.length < f→t.length < g→lS f acc t=lS g acc t
 | 0,_,_,_,h,_=>by omega
 | _ + 1,0,_,_,_,h=>by omega
 | f + 1,g + 1,acc,t,h1,h2=>by
  unfold lS
  have hp:=wV t
  cases hm:kZ t with
  | er u e=>rfl
  | ok m u=>
   have:=(hp.ok m u hm).1
   simp only
   split
   ·rfl
   ·split
    ·have:u.tail.length≤u.length:=by simp
     exact zT f g _ _ (by omega) (by omega)
    ·rfl
theorem CS (acc:List aQ) (t:List Kt):pW acc t=match kZ t with
  | .er u e=>.er u e
  | .ok p u=>if isT 4 [125] u then .ok (acc ++ [p]) u else if isT 4 [44] u then pW (acc ++ [p]) u.tail else wr u:=by
 unfold pW
 conv=>lhs; unfold lS
 have hp:=wV t
 cases hm:kZ t with
 | er u e=>rfl
 | ok m u=>
  have:=(hp.ok m u hm).1
  simp only
  split
  ·rfl
  ·split
   ·have:u.tail.length≤u.length:=by simp
    exact zT _ _ _ _ (by omega) (by omega)
   ·rfl
theorem Pg (l:List aQ):(gT l).2=0 ∨ (gT l).2=4 ∨ (gT l).2=6 ∨ (gT l).2=7:=by
 unfold gT p5
 repeat' split
 all_goals simp_all
theorem NN {l:List aQ} (h:(gT l).2=0):iY (gT l).1=true:=by
 by_cases hg:xK l
 ·rw [F5 hg]; exact NA hg
 ·exact absurd h (Pq hg).2.1
def FB (l:List aQ):Prop:=iY l=true∧(l.any fun p=>Bl p.1)=false
theorem Nn (l:List aQ) (u:List Kt) (hu:u ≠ []):bC u (t6 l u) FB 1:=by
 unfold t6
 have he:=Pg l
 split
 ·rename_i h
  split
  ·exact bC.erI (bQ _) (by simp [hu]) (by simp)
  ·rename_i h2
   rcases u with _ | ⟨x,u⟩
   ·exact absurd rfl hu
   ·exact bC.okI (oO _ _) (by simp) ⟨NN h,by simpa using h2⟩
 ·rename_i h
  exact bC.erI (bQ _) (by simp [hu]; omega) h
theorem B6:∀ (f:Nat) (acc:List aQ) (t:List Kt) (l:List aQ) (u:List Kt),lS f acc t=.ok l u→isT 4 [125] u=true
 | 0,_,_,_,_,h=>by cases h
 | f + 1,acc,t,l,u,h=>by
  unfold lS at h
  split at h
  ·cases h
  ·split at h
   ·cases h; assumption
   ·split at h
    ·exact B6 f _ _ _ _ h
    ·cases h
theorem CR (t:List Kt):bC t (jU t) FB 2:=by
 unfold jU
 split
 ·rename_i h
  refine bC.front (dL h) (m:=1) (by simp) ?_
  have hne:∀ u:List Kt,isT 4 [125] u=true→u ≠ []:=fun u h h2=>by rw [h2] at h; cases h
  have:bC t.tail (if isT 4 [125] t.tail then .ok [] t.tail else pW [] t.tail:Pr (List aQ)) (fun _=>True) 0:=by
   split
   ·exact bC.okI (bQ _) (by simp) trivial
   ·exact (Eo _ _ _ (by omega)).mono (fun _ h=>h) (by omega)
  cases hm:(if isT 4 [125] t.tail then .ok [] t.tail else pW [] t.tail:Pr (List aQ)) with
  | er u e=>obtain ⟨_,⟨p,b⟩,c⟩:=this.er u e hm; exact bC.erI b c.1 c.2
  | ok l u=>
   obtain ⟨h1,⟨p,b⟩,_⟩:=this.ok l u hm
   refine bC.front b (m:=1) (by omega) (Nn l u (hne u ?_))
   split at hm
   ·cases hm; assumption
   ·exact B6 _ _ _ _ _ hm
 ·exact bC.wrI (bQ _)
theorem CE (t:List Kt):bC t (kJ t) FB 0:=by
 unfold kJ
 split
 ·rename_i h; exact (CR _).front (dL h) (by simp)
 ·exact bC.okI (bQ _) (by simp) ⟨rfl,rfl⟩
theorem NL (nm:Str) (x:bX) (hn:cP nm=true) (hx:jW x=true) (t:List Kt):bC t (sC nm x t) (fun r=>eI r=true) 1:=by
 unfold sC
 rcases (C3 kW t).split with ⟨u',e,p,hr,hp,h3,h0⟩ | ⟨fr,t1,p,hr,hp,hl,hf⟩ <;> rw [hr] <;> dsimp only
 ·exact bC.erI hp h3 h0
 refine bC.front (m:=1) hp (by omega) ?_
 rcases (C3 jE t1).split with ⟨u',e,p,hr,hp,h3,h0⟩ | ⟨kp,t2,p,hr,hp,hl,hk⟩ <;> rw [hr] <;> dsimp only
 ·exact bC.erI hp h3 h0
 refine bC.front (m:=1) hp (by omega) ?_
 rcases (CE t2).split with ⟨u',e,p,hr,hp,h3,h0⟩ | ⟨l,t3,p,hr,hp,hl,hl⟩ <;> rw [hr] <;> dsimp only
 ·exact bC.erI hp h3 h0
 refine bC.front (m:=1) hp (by omega) ?_
 split
 ·rename_i h
  refine bC.okI (dL h) (by simp) ?_
  unfold eI
  simp only
  rw [hn,hx,hf,hk,hl.1,hl.2]; rfl
 ·exact bC.wrI (bQ _)
theorem wO (t:List Kt):bC t (jC t) (fun r=>eI r=true) 7:=by
 unfold jC
 split
 ·rename_i h
  refine bC.front (dL h) (m:=6) (by simp) ?_
  rcases (mR t.tail).split with ⟨u',e,p,hr,hp,h3,h0⟩ | ⟨nm,t1,p,hr,hp,hl,hn⟩ <;> rw [hr] <;> dsimp only
  ·exact bC.erI hp h3 h0
  refine bC.front (m:=5) hp (by omega) ?_
  split
  ·rename_i h2
   refine bC.front (dL h2) (m:=4) (by simp) ?_
   unfold wD
   rcases (yI 32 t1.tail).split with ⟨u',e,p,hr,hp,h3,h0⟩ | ⟨x,t2,p,hr,hp,hl,hx⟩ <;> rw [hr] <;> dsimp only
   ·exact bC.erI hp h3 h0
   refine bC.front (m:=1) hp (by omega) ?_
   exact NL nm x hn hx t2
  ·exact bC.wrI (bQ _)
 ·exact bC.wrI (bQ _)
end Go.Proofs.YthgenmkengbmmaaGreatDoor.AM
namespace Go.Proofs.YthgenmkengbmmaaGreatDoor.AM
open Go
open Go.Lib (decDigits)
def kv (x:aL):Kt:=(x.K,x.S)
def LX (t:Str) (ks:List Kt):Prop:=t.length≤100000000→∀ a,∃ l,Lx t a l∧l.map kv=ks
def Off (p:UInt8→Bool) (t:Str):Prop:=∀ c r,t=c :: r→p c=false
theorem Off.cons {p:UInt8→Bool}{c:UInt8}{t:Str} (h:p c=false):Off p (c :: t):=fun _ _ e=>by cases e; exact h
theorem KQ (p:UInt8→Bool):∀ (l r:Str),(∀ c ∈ l,p c=true)→Off p r→(l ++ r).takeWhile p=l
 | [],r,_,hr=>by
  rcases r with _ | ⟨c,r⟩
  ·rfl
  ·simp [List.takeWhile_cons,hr c r rfl]
 | c :: l,r,hl,hr=>by
  have h1:=KQ p l r (fun d hd=>hl d (by simp [hd])) hr
  simp [List.takeWhile_cons,hl c (by simp),h1]
theorem LX.nil:LX [] []:=fun _ a=>⟨[],.nil a,rfl⟩
theorem LX.sp {c:UInt8}{t:Str}{ks:List Kt} (hc:isW c=true) (h:LX t ks):LX (c :: t) ks:=fun hl a=>by
 obtain ⟨l,h1,h2⟩:=h (by simp at hl; omega) (a + 1)
 exact ⟨l,.sp hc h1,h2⟩
theorem Hg {w:Str}{c:UInt8}{t:Str}{p:Bool} (hw:∀ d ∈ w,isR p d=true) (ho:Off (isR p) t) (hl:(c :: w ++ t).length≤100000000):nK (c :: w ++ t) p=some ((c :: w).length:Int):=by
 rw [BG _ _ hl]
 simp only [List.cons_append,List.drop_succ_cons,List.drop_zero,KQ _ w t hw ho,List.length_cons]
 congr 1; omega
theorem P3 {c:UInt8} (h:isL c=true):isW c=false∧c ≠ 35∧isR false c=true:=by
 refine ⟨?_,?_,by unfold isR; rw [h]; rfl⟩
 ·cases hw:isW c
  ·rfl
  ·exfalso
   unfold isW at hw
   simp only [Bool.or_eq_true,decide_eq_true_eq] at hw
   rcases hw with ((rfl | rfl) | rfl) | rfl <;> revert h <;> decide
 ·rintro rfl; revert h; decide
theorem C9 {c:UInt8} (h:isD c=true):isW c=false∧c ≠ 35∧isL c=false∧isR true c=true:=by
 have h2:=nG.1 h
 refine ⟨?_,?_,?_,?_⟩
 ·cases hw:isW c
  ·rfl
  ·exfalso
   unfold isW at hw
   simp only [Bool.or_eq_true,decide_eq_true_eq] at hw
   rcases hw with ((rfl | rfl) | rfl) | rfl <;> revert h <;> decide
 ·rintro rfl; revert h; decide
 ·unfold isL A4
  simp; omega
 ·unfold isR; rw [h]; simp
theorem LX.word {c:UInt8}{w t:Str}{ks:List Kt} (hc:isL c=true) (hw:∀ d ∈ w,isR false d=true) (ho:Off (isR false) t) (h:LX t ks):LX (c :: w ++ t) ((1,c :: w) :: ks):=fun hl a=>by
 obtain ⟨l,h1,h2⟩:=h (by simp only [List.length_append] at hl; omega) (a + (c :: w).length)
 obtain ⟨f1,f2,_⟩:=P3 hc
 exact ⟨⟨1,a,c :: w⟩ :: l,.run (.inl rfl) ⟨c,w,rfl,f1,f2⟩ (LQ (by rfl) hc) (Hg hw ho hl) h1,by simp [kv,h2]⟩
theorem LX.num {c:UInt8}{w t:Str}{ks:List Kt} (hc:isD c=true) (hw:∀ d ∈ w,isR true d=true) (ho:Off (isR true) t) (h:LX t ks):LX (c :: w ++ t) ((2,c :: w) :: ks):=fun hl a=>by
 obtain ⟨l,h1,h2⟩:=h (by simp only [List.length_append] at hl; omega) (a + (c :: w).length)
 obtain ⟨f1,f2,f3,_⟩:=C9 hc
 exact ⟨⟨2,a,c :: w⟩ :: l,.run (.inr rfl) ⟨c,w,rfl,f1,f2⟩ (N6 (by rfl) f3 hc) (Hg hw ho hl) h1,by simp [kv,h2]⟩
theorem LX.neg {c:UInt8}{w t:Str}{ks:List Kt} (hc:isD c=true) (hw:∀ d ∈ w,isR true d=true) (ho:Off (isR true) t) (h:LX t ks):LX (45 :: c :: w ++ t) ((2,45 :: c :: w) :: ks):=fun hl a=>by
 obtain ⟨l,h1,h2⟩:=h (by simp only [List.length_append] at hl; omega) (a + (45 :: c :: w).length)
 obtain ⟨f1,f2,f3,f4⟩:=C9 hc
 exact ⟨⟨2,a,45 :: c :: w⟩ :: l,.run (.inr rfl) ⟨45,c :: w,rfl,by decide,by decide⟩ (OD (d:=c) (by rfl) (by rfl) hc) (Hg (fun d hd=>by
  rcases List.mem_cons.1 hd with rfl | hd
  ·exact f4
  ·exact hw d hd) ho hl) h1,by simp [kv,h2]⟩
theorem LX.text {v t:Str}{ks:List Kt} (h:LX t ks):LX (dH v ++ t) ((3,v) :: ks):=fun hl a=>by
 obtain ⟨l,h1,h2⟩:=h (by simp only [List.length_append] at hl; omega) (a + (dH v).length)
 exact ⟨⟨3,a,v⟩ :: l,.text h1,by simp [kv,h2]⟩
theorem LX.sign1 {c:UInt8}{t:Str}{ks:List Kt} (hc:isL c=false∧isD c=false∧c ≠ 45∧c ≠ 34∧¬ 0≤Lib.indexByte [61,33,60,62] c∧0≤Lib.indexByte [123,125,40,41,44,58,59,61,60,62] c) (h2:isW c=false∧c ≠ 35) (h:LX t ks):LX (c :: t) ((4,[c]) :: ks):=fun hl a=>by
 obtain ⟨l,h1,h3⟩:=h (by simp only [List.length_cons] at hl; omega) (a + [c].length)
 exact ⟨⟨4,a,[c]⟩ :: l,.sign (w:=[c]) ⟨c,[],rfl,h2⟩ (JO (t:=[c] ++ t) (by rfl) hc) h1,by simp [kv,h3]⟩
theorem LX.sign2 {c:UInt8}{t:Str}{ks:List Kt} (hc:isL c=false∧isD c=false∧c ≠ 45∧c ≠ 34∧0≤Lib.indexByte [61,33,60,62] c) (h2:isW c=false∧c ≠ 35) (h:LX t ks):LX (c :: 61 :: t) ((4,[c,61]) :: ks):=fun hl a=>by
 obtain ⟨l,h1,h3⟩:=h (by simp only [List.length_cons] at hl; omega) (a + [c,61].length)
 exact ⟨⟨4,a,[c,61]⟩ :: l,.sign (w:=[c,61]) ⟨c,[61],rfl,h2⟩ (KA (t:=[c,61] ++ t) (by rfl) (by rfl) hc) h1,by simp [kv,h3]⟩
theorem LX.sign3 {c d:UInt8}{t:Str}{ks:List Kt} (hd:d ≠ 61) (hc:isL c=false∧isD c=false∧c ≠ 45∧c ≠ 34∧0≤Lib.indexByte [61,33,60,62] c∧0≤Lib.indexByte [123,125,40,41,44,58,59,61,60,62] c) (h2:isW c=false∧c ≠ 35) (h:LX (d :: t) ks):LX (c :: d :: t) ((4,[c]) :: ks):=fun hl a=>by
 obtain ⟨l,h1,h3⟩:=h (by simp only [List.length_cons] at hl ⊢; omega) (a + [c].length)
 exact ⟨⟨4,a,[c]⟩ :: l,.sign (w:=[c]) ⟨c,[],rfl,h2⟩ (Lo (t:=[c] ++ d :: t) (c:=c) (d:=d) (by rfl) (by rfl) hd hc) h1,by simp [kv,h3]⟩
theorem O9 (c:UInt8) (s:Str) (i:Nat):Ah (c :: s) (i + 1)=isR false (s.getD i 0):=by
 unfold Ah isR isL isD JK
 simp only [List.getD_cons_succ]
 generalize s.getD i 0=d
 rw [show decide ((48:Int)≤(d.toNat:Int))=decide (48≤d.toNat) from by rw [decide_eq_decide]; omega,show decide ((d.toNat:Int)≤57)=decide (d.toNat≤57) from by rw [decide_eq_decide]; omega]
 simp
theorem Ew {s:Str} (h:cP s=true):∃ c w,s=c :: w∧isL c=true∧(∀ d ∈ w,isR false d=true)∧w.length < 64:=by
 simp only [cP,Bool.and_eq_true,decide_eq_true_eq,List.all_eq_true,List.mem_range] at h
 obtain ⟨⟨h1,h2⟩,h3⟩:=h
 rcases s with _ | ⟨c,w⟩
 ·simp at h1
 ·refine ⟨c,w,rfl,?_,?_,by simp at h2; omega⟩
  ·have:=h3 0 (by simp)
   unfold Ah at this
   simpa [isL] using this
  ·intro d hd
   obtain ⟨i,hi,rfl⟩:=List.mem_iff_getElem.1 hd
   have:=h3 (i + 1) (by simp; omega)
   rw [O9] at this
   rw [List.getD_eq_getElem?_getD,List.getElem?_eq_getElem hi] at this
   exact this
theorem LX.name {s t:Str}{ks:List Kt} (hs:cP s=true) (ho:Off (isR false) t) (h:LX t ks):LX (s ++ t) ((1,s) :: ks):=by
 obtain ⟨c,w,rfl,h1,h2,_⟩:=Ew hs
 exact LX.word h1 h2 ho h
theorem A6 {c:UInt8} (h:isD c=true):isR true c=true:=(C9 h).2.2.2
theorem QS (r:Nat) (hr:r < 1000):∀ d ∈ jH r,isR true d=true:=by
 have d1:=A6 (o7 (show r / 100 < 10 by omega))
 have d2:=A6 (o7 (show r / 10 % 10 < 10 by omega))
 have d3:=A6 (o7 (show r % 10 < 10 by omega))
 have d0:isR true 46=true:=by decide
 intro d hd
 unfold jH at hd
 split at hd
 ·cases hd
 ·split at hd
  ·simp only [List.mem_cons,List.not_mem_nil,or_false] at hd
   rcases hd with rfl | rfl <;> assumption
  ·split at hd
   ·simp only [List.mem_cons,List.not_mem_nil,or_false] at hd
    rcases hd with rfl | rfl | rfl <;> assumption
   ·simp only [List.mem_cons,List.not_mem_nil,or_false] at hd
    rcases hd with rfl | rfl | rfl | rfl <;> assumption
theorem Ol (u:Nat):∀ d ∈ kX u,isR true d=true:=by
 intro d hd
 unfold kX at hd
 rcases List.mem_append.1 hd with hd | hd
 ·exact A6 (w4 _ d hd)
 ·exact QS _ (by omega) d hd
theorem LX.printN {v:Int}{t:Str}{ks:List Kt} (hv:qV v=true) (ho:Off (isR true) t) (h:LX t ks):LX (Go.Proofs.YthgenmkengbmmaaGreatDoor.AM.printN v ++ t) ((2,Go.Proofs.YthgenmkengbmmaaGreatDoor.AM.printN v) :: ks):=by
 unfold Go.Proofs.YthgenmkengbmmaaGreatDoor.AM.printN
 rw [if_pos hv]
 obtain ⟨c,w,e,hc⟩:=Ep v.natAbs
 have hr:=Ol v.natAbs
 rw [e] at hr ⊢
 have hw:∀ d ∈ w,isR true d=true:=fun d hd=>hr d (by simp [hd])
 by_cases hn:v < 0
 ·rw [if_pos hn]; exact LX.neg hc hw ho h
 ·rw [if_neg hn]; exact LX.num hc hw ho h
theorem Qz {i:Nat}{n:Str}{k:Nat} (h:eC[i]?=some (n,k)):∀ c ∈ n,isR true c=true:=by
 have:i < 5:=(List.getElem?_eq_some_iff.1 h).1
 have:i=0 ∨ i=1 ∨ i=2 ∨ i=3 ∨ i=4:=by omega
 rcases this with rfl | rfl | rfl | rfl | rfl <;> simp only [eC,List.getElem?_cons_zero,List.getElem?_cons_succ,Option.some.injEq,Prod.mk.injEq] at h <;> obtain ⟨rfl,rfl⟩:=h <;> decide
theorem Ee:∀ (j i d:Nat),i + j=5→∀ c ∈ fZ (eC.drop i) d,isR true c=true
 | 0,i,d,hi,c,hc=>by
  have:i=5:=by omega
  subst this
  cases hc
 | j + 1,i,d,hi,c,hc=>by
  obtain ⟨n,k,hu,hd,_⟩:=y4 i (by omega)
  rw [hd] at hc
  unfold fZ at hc
  rcases List.mem_append.1 hc with hc | hc
  ·split at hc
   ·rcases List.mem_append.1 hc with hc | hc
    ·exact A6 (w4 _ c hc)
    ·exact Qz hu c hc
   ·cases hc
  ·exact Ee j (i + 1) _ (by omega) c hc
theorem FT:∀ (j i d:Nat),i + j=5→(i=5→d=0)→d ≠ 0→fZ (eC.drop i) d ≠ []
 | 0,i,d,hi,h5,h0=>by exact absurd (h5 (by omega)) h0
 | j + 1,i,d,hi,_,h0=>by
  obtain ⟨n,k,hu,hd,hk,hk4⟩:=y4 i (by omega)
  rw [hd]
  unfold fZ
  by_cases hp:0 < d / k
  ·rw [if_pos hp]
   have:=u7 (d / k)
   simp [this]
  ·rw [if_neg hp,List.nil_append]
   have:d / k=0:=Nat.le_zero.1 (Nat.not_lt.1 hp)
   have h2:=Nat.div_add_mod d k
   rw [this,Nat.mul_zero,Nat.zero_add] at h2
   refine FT j (i + 1) _ (by omega) (fun h=>?_) (by omega)
   rw [hk4 (by omega)]; exact Nat.mod_one d
theorem Mn {v:Int} (h:tmB v=true):∃ c w,printD v=c :: w∧isD c=true∧∀ d ∈ w,isR true d=true:=by
 have hv:=kK.1 h
 unfold printD
 rw [if_pos h]
 by_cases h0:v=0
 ·rw [if_pos h0]; exact ⟨48,[115],rfl,by decide,by decide⟩
 ·rw [if_neg h0]
  have h1:=yP eC v.toNat
  have h2:=Ee 5 0 v.toNat rfl
  have h3:=FT 5 0 v.toNat rfl (by omega) (by omega)
  rw [List.drop_zero] at h2 h3
  rcases hp:fZ eC v.toNat with _ | ⟨c,w⟩
  ·exact absurd hp h3
  ·rw [hp] at h2
   exact ⟨c,w,rfl,h1 c w hp,fun d hd=>h2 d (by simp [hd])⟩
theorem LX.printD {v:Int}{t:Str}{ks:List Kt} (hv:tmB v=true) (ho:Off (isR true) t) (h:LX t ks):LX (Go.Proofs.YthgenmkengbmmaaGreatDoor.AM.printD v ++ t) ((2,Go.Proofs.YthgenmkengbmmaaGreatDoor.AM.printD v) :: ks):=by
 obtain ⟨c,w,e,hc,hw⟩:=Mn hv
 rw [e]
 exact LX.num hc hw ho h
def matchS (m:bI):Str:=m.Name ++ ((if m.Not then [33,61] else [61]) ++ dH m.Value)
def selM (b:UInt8):List bI→Str
 | []=>[]
 | m :: ms=>b :: (matchS m ++ selM 44 ms)
def selS (s:cN):Str:=s.Name ++ (if s.M=[] then [] else selM 123 s.M ++ [125])
def signS (k:Int):Str:=if k=1 then [62] else if k=2 then [62,61] else if k=3 then [60] else if k=4 then [60,61] else if k=5 then [61,61] else if k=6 then [33,61] else []
def condS (x:bX):Str:=selS x.S ++ (32 :: (signS x.Op ++ (32 :: printN x.V)))
def optS (w:Str) (d:Int):Str:=if 0 < d then 32 :: (w ++ (32 :: printD d)) else []
def labM (b:Str):List aQ→Str
 | []=>[]
 | p :: ps=>b ++ (p.1 ++ (61 :: (dH p.2 ++ labM [44] ps)))
def labS (l:List aQ):Str:=if l=[] then [] else labM (32 :: (kG ++ [32,123])) l ++ [125]
def ruleS (r:aR):Str:=m7 ++ (32 :: (r.Name ++ (58 :: 32 :: (condS r.E ++ (optS kW r.For ++ (optS jE r.Keep ++ (labS r.Labels ++ [59])))))))
def vD (m:bI):List Kt:=[(1,m.Name),(4,if m.Not then [33,61] else [61]),(3,m.Value)]
def uD (b:UInt8):List bI→List Kt
 | []=>[]
 | m :: ms=>(4,[b]) :: (vD m ++ uD 44 ms)
def CG (s:cN):List Kt:=(1,s.Name) :: (if s.M=[] then [] else uD 123 s.M ++ [(4,[125])])
def wU (x:bX):List Kt:=CG x.S ++ [(4,signS x.Op),(2,printN x.V)]
def n9 (w:Str) (d:Int):List Kt:=if 0 < d then [(1,w),(2,printD d)] else []
def o5 (b:List Kt):List aQ→List Kt
 | []=>[]
 | p :: ps=>b ++ ((1,p.1) :: (4,[61]) :: (3,p.2) :: o5 [(4,[44])] ps)
def zX (l:List aQ):List Kt:=if l=[] then [] else o5 [(1,kG),(4,[123])] l ++ [(4,[125])]
def GJ (r:aR):List Kt:=(1,m7) :: (1,r.Name) :: (4,[58]) :: (wU r.E ++ (n9 kW r.For ++ (n9 jE r.Keep ++ zX r.Labels)))
def sV (r:aR):List Kt:=GJ r ++ [(4,[59])]
theorem LX.matchS {m:bI}{t:Str}{ks:List Kt} (hm:mOk m=true) (h:LX t ks):LX (Go.Proofs.YthgenmkengbmmaaGreatDoor.AM.matchS m ++ t) (vD m ++ ks):=by
 unfold Go.Proofs.YthgenmkengbmmaaGreatDoor.AM.matchS vD
 simp only [mOk,Bool.and_eq_true,decide_eq_true_eq] at hm
 rw [List.append_assoc]
 refine LX.name hm.1 ?_ ?_
 ·cases m.Not <;> exact Off.cons (by decide)
 ·cases m.Not
  ·exact LX.sign3 (c:=61) (d:=34) (by decide) (by decide) (by decide) (LX.text h)
  ·exact LX.sign2 (c:=33) (by decide) (by decide) (LX.text h)
theorem LX.selM:∀ (ms:List bI) (b:UInt8) {t:Str}{ks:List Kt},ms.all mOk=true→b=123 ∨ b=44→LX t ks→LX (Go.Proofs.YthgenmkengbmmaaGreatDoor.AM.selM b ms ++ t) (uD b ms ++ ks)
 | [],b,t,ks,_,_,h=>h
 | m :: ms,b,t,ks,hm,hb,h=>by
  rw [List.all_cons,Bool.and_eq_true] at hm
  have ih:=LX.selM ms 44 hm.2 (.inr rfl) h
  have:=LX.matchS hm.1 ih
  unfold Go.Proofs.YthgenmkengbmmaaGreatDoor.AM.selM uD
  rw [List.cons_append,List.cons_append,List.append_assoc,List.append_assoc]
  rcases hb with rfl | rfl
  ·exact LX.sign1 (by decide) (by decide) this
  ·exact LX.sign1 (by decide) (by decide) this
theorem LX.selS {s:cN}{t:Str}{ks:List Kt} (hs:lX s=true) (ho:Off (isR false) t) (h:LX t ks):LX (Go.Proofs.YthgenmkengbmmaaGreatDoor.AM.selS s ++ t) (CG s ++ ks):=by
 unfold Go.Proofs.YthgenmkengbmmaaGreatDoor.AM.selS CG
 simp only [lX,Bool.and_eq_true,decide_eq_true_eq] at hs
 rw [List.append_assoc,List.cons_append]
 refine LX.name hs.1.1 ?_ ?_
 ·by_cases hm:s.M=[]
  ·rw [if_pos hm]; exact ho
  ·rw [if_neg hm]
   rcases hl:s.M with _ | ⟨m,ms⟩
   ·exact absurd hl hm
   ·exact Off.cons (by decide)
 ·by_cases hm:s.M=[]
  ·rw [if_pos hm,if_pos hm]; exact h
  ·rw [if_neg hm,if_neg hm,List.append_assoc,List.append_assoc]
   exact LX.selM s.M 123 hs.2 (.inl rfl) (LX.sign1 (by decide) (by decide) h)
theorem LX.signS {k:Int} (hk:1≤k∧k≤6) {t:Str}{ks:List Kt} (h:LX (32 :: t) ks):LX (Go.Proofs.YthgenmkengbmmaaGreatDoor.AM.signS k ++ (32 :: t)) ((4,Go.Proofs.YthgenmkengbmmaaGreatDoor.AM.signS k) :: ks):=by
 have:k=1 ∨ k=2 ∨ k=3 ∨ k=4 ∨ k=5 ∨ k=6:=by omega
 rcases this with rfl | rfl | rfl | rfl | rfl | rfl
 ·exact LX.sign3 (c:=62) (d:=32) (by decide) (by decide) (by decide) h
 ·exact LX.sign2 (c:=62) (by decide) (by decide) h
 ·exact LX.sign3 (c:=60) (d:=32) (by decide) (by decide) (by decide) h
 ·exact LX.sign2 (c:=60) (by decide) (by decide) h
 ·exact LX.sign2 (c:=61) (by decide) (by decide) h
 ·exact LX.sign2 (c:=33) (by decide) (by decide) h
theorem LX.condS {x:bX}{t:Str}{ks:List Kt} (hx:jW x=true) (ho:Off (isR true) t) (h:LX t ks):LX (Go.Proofs.YthgenmkengbmmaaGreatDoor.AM.condS x ++ t) (wU x ++ ks):=by
 unfold Go.Proofs.YthgenmkengbmmaaGreatDoor.AM.condS wU
 simp only [jW,Bool.and_eq_true,decide_eq_true_eq] at hx
 simp only [List.append_assoc,List.cons_append,List.nil_append]
 refine LX.selS hx.1.1 (Off.cons (by decide)) ?_
 refine LX.sp (by decide) ?_
 exact LX.signS hx.1.2 (LX.sp (by decide) (LX.printN hx.2 ho h))
theorem HB (w:Str) (d:Int) (t:Str) (h:Off (isR true) t):Off (isR true) (optS w d ++ t):=by
 unfold optS; split
 ·exact Off.cons (by decide)
 ·exact h
theorem LX.optS {w:Str}{d:Int}{t:Str}{ks:List Kt} (hw:cP w=true) (hd:tmB d=true) (ho:Off (isR true) t) (h:LX t ks):LX (Go.Proofs.YthgenmkengbmmaaGreatDoor.AM.optS w d ++ t) (n9 w d ++ ks):=by
 unfold Go.Proofs.YthgenmkengbmmaaGreatDoor.AM.optS n9
 by_cases h0:0 < d
 ·rw [if_pos h0,if_pos h0]
  rw [List.cons_append,List.append_assoc]
  exact LX.sp (by decide) (LX.name hw (Off.cons (by decide)) (LX.sp (by decide) (LX.printD hd ho h)))
 ·rw [if_neg h0,if_neg h0]; exact h
theorem Tg (l:List aQ) (t:Str) (h:Off (isR true) t):Off (isR true) (labS l ++ t):=by
 unfold labS; split
 ·exact h
 ·rcases l with _ | ⟨p,l⟩
  ·contradiction
  ·exact Off.cons (by decide)
theorem LX.pair {p:aQ}{t:Str}{ks:List Kt} (hp:cP p.1=true) (h:LX t ks):LX (p.1 ++ (61 :: (dH p.2 ++ t))) ((1,p.1) :: (4,[61]) :: (3,p.2) :: ks) :=
 LX.name hp (Off.cons (by decide)) (LX.sign3 (c:=61) (d:=34) (by decide) (by decide) (by decide) (LX.text h))
theorem LX.labM:∀ (ps:List aQ) {t:Str}{ks:List Kt},(∀ p ∈ ps,cP p.1=true)→LX t ks→LX (Go.Proofs.YthgenmkengbmmaaGreatDoor.AM.labM [44] ps ++ t) (o5 [(4,[44])] ps ++ ks)
 | [],t,ks,_,h=>h
 | p :: ps,t,ks,hp,h=>by
  have ih:=LX.labM ps (fun q hq=>hp q (by simp [hq])) h
  have:=LX.pair (hp p (by simp)) ih
  unfold Go.Proofs.YthgenmkengbmmaaGreatDoor.AM.labM o5
  simp only [List.cons_append,List.nil_append,List.append_assoc]
  exact LX.sign1 (by decide) (by decide) this
theorem LX.labS {l:List aQ}{t:Str}{ks:List Kt} (hl:iY l=true) (h:LX t ks):LX (Go.Proofs.YthgenmkengbmmaaGreatDoor.AM.labS l ++ t) (zX l ++ ks):=by
 unfold Go.Proofs.YthgenmkengbmmaaGreatDoor.AM.labS zX
 have hp:=(uR.1 hl).2.1
 rcases l with _ | ⟨p,ps⟩
 ·exact h
 ·rw [if_neg (by simp),if_neg (by simp)]
  have ih:=LX.labM ps (fun q hq=>hp q (by simp [hq])) (LX.sign1 (c:=125) (by decide) (by decide) h)
  have:=LX.pair (hp p (by simp)) ih
  unfold Go.Proofs.YthgenmkengbmmaaGreatDoor.AM.labM o5
  simp only [List.cons_append,List.nil_append,List.append_assoc] at this ⊢
  refine LX.sp (by decide) (LX.word (c:=108) (w:=[97,98,101,108,115]) (by decide) (by decide) (Off.cons (by decide)) ?_)
  exact LX.sp (by decide) (LX.sign1 (by decide) (by decide) this)
theorem LX.ruleS {r:aR}{t:Str}{ks:List Kt} (hr:eI r=true) (h:LX t ks):LX (Go.Proofs.YthgenmkengbmmaaGreatDoor.AM.ruleS r ++ t) (sV r ++ ks):=by
 unfold Go.Proofs.YthgenmkengbmmaaGreatDoor.AM.ruleS sV GJ
 simp only [eI,Bool.and_eq_true] at hr
 obtain ⟨⟨⟨⟨⟨h1,h2⟩,h3⟩,h4⟩,h5⟩,_⟩:=hr
 have hs:LX (59 :: t) ((4,[59]) :: ks):=LX.sign1 (by decide) (by decide) h
 have o1:Off (isR true) (59 :: t):=Off.cons (by decide)
 have e1:=LX.labS h5 hs
 have o2:=Tg r.Labels _ o1
 have e2:=LX.optS (w:=jE) (by decide) h4 o2 e1
 have o3:=HB jE r.Keep _ o2
 have e3:=LX.optS (w:=kW) (by decide) h3 o3 e2
 have o4:=HB kW r.For _ o3
 have e4:=LX.condS h2 o4 e3
 simp only [List.cons_append,List.nil_append,List.append_assoc]
 refine LX.name (s:=m7) (by decide) (Off.cons (by decide)) (LX.sp (by decide) ?_)
 refine LX.name h1 (Off.cons (by decide)) (LX.sign1 (by decide) (by decide) (LX.sp (by decide) ?_))
 exact e4
end Go.Proofs.YthgenmkengbmmaaGreatDoor.AM
namespace Go.Proofs.YthgenmkengbmmaaGreatDoor.AM
open Go
theorem Qr (x s:Str) (t:List Kt):isT 4 x ((1,s) :: t)=false:=lT t (.inr (by decide))
theorem PU (t:List Kt):isT 4 [125] ((4,[44]) :: t)=false:=lT t (.inl (by decide))
theorem wJ {s:Str} (h:cP s=true) (t:List Kt):jS ((1,s) :: t)=.ok s t:=by
 unfold jS; simp [h]
theorem D7 {m:bI} (hm:mOk m=true) {n:Nat} (hn:n < 8) (t:List Kt):mB n (vD m ++ t)=.ok m t:=by
 simp only [mOk,Bool.and_eq_true,decide_eq_true_eq] at hm
 unfold mB vD
 simp only [List.cons_append,List.nil_append]
 rw [wJ hm.1]
 simp only
 obtain ⟨a,b,c⟩:=m
 simp only at hm ⊢
 cases c
 ·simp only [Bool.false_eq_true,if_false]
  rw [lT _ (.inl (by decide)),eH]
  simp only [Bool.false_eq_true,if_false,if_true,List.tail_cons]
  unfold rW
  simp only
  rw [if_pos trivial,if_neg (by omega)]
 ·simp only [if_true]
  simp only [eH,if_true,List.tail_cons]
  unfold rW
  simp only
  rw [if_pos trivial,if_neg (by omega)]
theorem Im (nm:Str):∀ (ms:List bI) (m:bI) (f:Nat) (acc:List bI) (t:List Kt),acc.length + f=8→ms.length + 1≤f→mOk m=true→ms.all mOk=true →
  mV nm f acc (vD m ++ (uD 44 ms ++ (4,[125]) :: t))=.ok ⟨nm,acc ++ m :: ms⟩ t
 | [],m,0,acc,t,_,h,_,_=>by simp at h
 | [],m,f + 1,acc,t,hl,h,hm,hms=>by
  unfold mV
  rw [D7 hm (by omega)]
  simp only [uD,List.nil_append]
  simp only [eH,if_true,List.tail_cons]
 | m2 :: ms,m,0,acc,t,_,h,_,_=>by simp at h
 | m2 :: ms,m,f + 1,acc,t,hl,h,hm,hms=>by
  unfold mV
  rw [D7 hm (by omega)]
  simp only [uD,List.cons_append]
  simp only [PU,eH,Bool.false_eq_true,if_false,if_true,List.tail_cons,List.append_assoc]
  rw [List.all_cons,Bool.and_eq_true] at hms
  simp only [List.length_cons] at h
  rw [Im nm ms m2 f (acc ++ [m]) t (by simp; omega) (by omega) hms.1 hms.2]
  simp
theorem D5 (m:bI) (t:List Kt):vD m ++ t=(1,m.Name) :: (4,if m.Not then [33,61] else [61]) :: (3,m.Value) :: t:=rfl
theorem Pp {s:cN} (hs:lX s=true) (t:List Kt) (ht:isT 4 [123] t=false):vQ (CG s ++ t)=.ok s t:=by
 simp only [lX,Bool.and_eq_true,decide_eq_true_eq] at hs
 obtain ⟨⟨h1,h2⟩,h3⟩:=hs
 obtain ⟨nm,M⟩:=s
 simp only at h1 h2 h3
 unfold vQ CG
 simp only [List.cons_append]
 rw [wJ h1]
 rcases M with _ | ⟨m,ms⟩
 ·simp only [if_true,List.nil_append,ht]; try rfl
 ·rw [if_neg (by simp)]
  simp only [uD,List.cons_append,List.append_assoc,List.nil_append]
  simp only [eH,if_true,List.tail_cons]
  rw [List.all_cons,Bool.and_eq_true] at h3
  simp only [D5,Qr,Bool.false_eq_true,if_false]
  rw [← D5,Im nm ms m 8 [] t rfl (by simpa using h2) h3.1 h3.2]
  rfl
theorem RB {k:Int} (hk:1≤k∧k≤6):opB (signS k)=k:=by
 have:k=1 ∨ k=2 ∨ k=3 ∨ k=4 ∨ k=5 ∨ k=6:=by omega
 rcases this with rfl | rfl | rfl | rfl | rfl | rfl <;> decide
theorem Q7 {k:Int} (hk:1≤k∧k≤6) (s:UInt8) (h:s=123 ∨ s=40 ∨ s=41:=by simp):signS k ≠ [s]:=by
 have:k=1 ∨ k=2 ∨ k=3 ∨ k=4 ∨ k=5 ∨ k=6:=by omega
 rcases h with rfl | rfl | rfl <;> rcases this with rfl | rfl | rfl | rfl | rfl | rfl <;> decide
theorem L2 {x:bX} (hx:jW x=true) (t:List Kt):oG (wU x ++ t)=.ok x t:=by
 simp only [jW,Bool.and_eq_true,decide_eq_true_eq] at hx
 obtain ⟨⟨h1,h2⟩,h3⟩:=hx
 unfold oG wU
 simp only [List.cons_append,List.append_assoc,List.nil_append]
 rw [Pp h1 _ (lT _ (.inl (Q7 h2 123)))]
 simp only [opP,if_true,RB h2]
 rw [if_neg (by omega)]
 simp only [List.tail_cons,sW,Rb h3,if_true]
theorem OV (s:cN):∃ t,CG s=(1,s.Name) :: t:=⟨_,rfl⟩
theorem NG {x:bX} (hx:jW x=true) (t:List Kt):wD (wU x ++ t)=.ok x t:=by
 have hp:=L2 hx t
 unfold wD fL
 have:isT 4 [40] (wU x ++ t)=false:=by
  obtain ⟨u,e⟩:=OV x.S
  unfold wU
  rw [e]
  exact lT _ (.inr (by decide))
 rw [this]
 simpa using hp
theorem H6 (w:Str) {d:Int} (hd:tmB d=true) (t:List Kt) (ht:isT 1 w t=false):rY w (n9 w d ++ t)=.ok d t:=by
 have h0:=kK.1 hd
 unfold rY n9
 by_cases hp:0 < d
 ·rw [if_pos hp]
  simp only [List.cons_append,List.nil_append]
  simp only [eH,if_true,List.tail_cons,eX,E7 hd]
 ·rw [if_neg hp,List.nil_append,ht]
  simp only [Bool.false_eq_true,if_false]
  rw [show d=0 by omega]
theorem Gd (p:aQ) (t:List Kt):kZ ((1,p.1) :: (4,[61]) :: (3,p.2) :: t)=.ok p t:=by
 unfold kZ
 simp only [if_true,eH,List.tail_cons]
theorem Ec:∀ (ps:List aQ) (p:aQ) (acc:List aQ) (t:List Kt),pW acc ((1,p.1) :: (4,[61]) :: (3,p.2) :: (o5 [(4,[44])] ps ++ (4,[125]) :: t))=.ok (acc ++ p :: ps) ((4,[125]) :: t)
 | [],p,acc,t=>by
  rw [CS,Gd]
  simp only [o5,List.nil_append,eH,if_true]
 | q :: ps,p,acc,t=>by
  rw [CS,Gd]
  simp only [o5,List.cons_append,List.nil_append]
  simp only [PU,eH,Bool.false_eq_true,if_false,if_true,List.tail_cons]
  rw [Ec ps q (acc ++ [p]) t]
  simp
theorem OJ {l:List aQ} (h:iY l=true):gT l=(l,0):=by
 obtain ⟨hg,ha⟩:=ED h
 rw [F5 hg,Le hg ha]
theorem JR {l:List aQ} (hl:FB l) (t:List Kt) (ht:isT 1 kG t=false):kJ (zX l ++ t)=.ok l t:=by
 obtain ⟨h1,h2⟩:=hl
 rcases l with _ | ⟨p,ps⟩
 ·unfold kJ zX
  rw [if_pos rfl,List.nil_append,ht]; rfl
 ·have e:zX (p :: ps)=o5 [(1,kG),(4,[123])] (p :: ps) ++ [(4,[125])]:=if_neg (by simp)
  rw [e]
  unfold kJ
  simp only [o5,List.cons_append,List.nil_append,List.append_assoc]
  simp only [eH,if_true,List.tail_cons]
  unfold jU
  simp only [eH,if_true,List.tail_cons]
  simp only [Qr,Bool.false_eq_true,if_false]
  rw [Ec ps p [] t]
  simp only [List.nil_append]
  unfold t6
  rw [OJ h1]
  simp only [if_true,h2,Bool.false_eq_true,if_false,List.tail_cons]
theorem QJ {w w2:Str} (hw:w2 ≠ w) (d:Int) {t:List Kt} (ht:isT 1 w t=false):isT 1 w (n9 w2 d ++ t)=false:=by
 unfold n9; split
 ·exact lT _ (.inl hw)
 ·exact ht
theorem Jy {w:Str} (hw:kG ≠ w) (l:List aQ) {t:List Kt} (ht:isT 1 w t=false):isT 1 w (zX l ++ t)=false:=by
 rcases l with _ | ⟨p,ps⟩
 ·exact ht
 ·exact lT _ (.inl hw)
theorem ND {r:aR} (hr:eI r=true) (t:List Kt) (h1:isT 1 kW t=false) (h2:isT 1 jE t=false) (h3:isT 1 kG t=false) :
  sC r.Name r.E (n9 kW r.For ++ (n9 jE r.Keep ++ (zX r.Labels ++ t)))=if isT 4 [59] t then .ok r t.tail else wr t:=by
 simp only [eI,Bool.and_eq_true,Bool.not_eq_true'] at hr
 obtain ⟨⟨⟨⟨⟨_,_⟩,k3⟩,k4⟩,k5⟩,k6⟩:=hr
 unfold sC
 rw [H6 kW k3 _ (QJ (by decide) _ (Jy (by decide) _ h1))]
 simp only
 rw [H6 jE k4 _ (Jy (by decide) _ h2)]
 simp only
 rw [JR ⟨k5,k6⟩ _ h3]
theorem Ot {r:aR} (hr:eI r=true) (t:List Kt) (h1:isT 1 kW t=false) (h2:isT 1 jE t=false) (h3:isT 1 kG t=false) :
  jC (GJ r ++ t)=if isT 4 [59] t then .ok r t.tail else wr t:=by
 have h:=hr
 simp only [eI,Bool.and_eq_true] at h
 obtain ⟨⟨⟨⟨⟨k1,k2⟩,_⟩,_⟩,_⟩,_⟩:=h
 unfold jC GJ
 simp only [List.cons_append,List.append_assoc]
 simp only [eH,if_true,List.tail_cons]
 rw [wJ k1]
 simp only
 simp only [eH,if_true,List.tail_cons]
 rw [NG k2]
 exact ND hr t h1 h2 h3
theorem Gn {r:aR} (hr:eI r=true) (t:List Kt):jC (sV r ++ t)=.ok r t:=by
 unfold sV
 rw [List.append_assoc,List.cons_append,List.nil_append,Ot hr _ (lT _ (.inr (by decide))) (lT _ (.inr (by decide))) (lT _ (.inr (by decide))),eH]
 rfl
end Go.Proofs.YthgenmkengbmmaaGreatDoor.AM
