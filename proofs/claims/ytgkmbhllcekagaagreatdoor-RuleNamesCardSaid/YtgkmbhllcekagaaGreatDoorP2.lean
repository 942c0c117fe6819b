/- A part of the proof: Q4, Q6, Q7, Q5, Q8, Q9, Q10, Q3, Q11, Q12. -/
import Derived.Test.YtgkmbhllcekagaaGreatDoorP1
set_option linter.all false
/- What tokens say: the grammar, over kinds and texts. -/
namespace Go.Proofs.YtgkmbhllcekagaaGreatDoor.AM
open Go
abbrev Kt:=Int × Str
inductive Pr (α:Type) | er (t:List Kt) (e:Int) | ok (a:α) (t:List Kt)
def isT (k:Int) (s:Str):List Kt→Bool
  | []=>false
  | x :: _=>decide (x.1=k) && decide (x.2=s)
def wrE:List Kt→Int
  | []=>3
  | _ :: _=>1
def wr {α:Type} (t:List Kt):Pr α:=.er t (wrE t)
def iP:List Kt→Pr Str
  | []=>.er [] 3
  | x :: r=>if x.1=1 then (if b9 x.2 then .ok x.2 r else .er (x :: r) 7) else .er (x :: r) 1
def tR (n:Nat) (nm:Str) (nt:Bool):List Kt→Pr a8
  | []=>.er [] 3
  | x :: r=>if x.1=3 then (if 64 < x.2.length ∨ 8≤n then .er (x :: r) 4 else .ok ⟨nm,x.2,nt⟩ r) else .er (x :: r) 1
def nP (n:Nat) (t:List Kt):Pr a8 :=
  match iP t with
  | .er u e=>.er u e
  | .ok nm u=>if isT 4 [33,61] u then tR n nm true u.tail else if isT 4 [61] u then tR n nm false u.tail else wr u
def lS (nm:Str):Nat→List a8→List Kt→Pr bM
  | 0,acc,t=>match nP acc.length t with
    | .er u e=>.er u e
    | .ok _ _=>.er t 4
  | f + 1,acc,t=>match nP acc.length t with
    | .er u e=>.er u e
    | .ok m u=>if isT 4 [125] u then .ok ⟨nm,acc ++ [m]⟩ u.tail else if isT 4 [44] u then lS nm f (acc ++ [m]) u.tail else wr u
def yC (t:List Kt):Pr bM :=
  match iP t with
  | .er u e=>.er u e
  | .ok nm u=>if isT 4 [123] u then (if isT 4 [125] u.tail then .ok ⟨nm,[]⟩ u.tail.tail else lS nm 8 [] u.tail) else .ok ⟨nm,[]⟩ u
def opB (s:Str):Int:=if s=[62] then 1 else if s=[62,61] then 2 else if s=[60] then 3 else if s=[60,61] then 4 else if s=[61,61] then 5 else if s=[33,61] then 6 else 0
def opP:List Kt→Int
  | []=>0
  | x :: _=>if x.1=4 then opB x.2 else 0
def vP (s:bM) (k:Int):List Kt→Pr bF
  | []=>.er [] 3
  | x :: r=>if x.1=2 then (if (m4 x.2).2=0 then .ok ⟨s,k,(m4 x.2).1⟩ r else .er (x :: r) (m4 x.2).2) else .er (x :: r) 1
def oX (t:List Kt):Pr bF :=
  match yC t with
  | .er u e=>.er u e
  | .ok s u=>if opP u=0 then wr u else vP s (opP u) u.tail
def u0:Nat→bF→List Kt→Pr bF
  | 0,x,t=>.ok x t
  | n + 1,x,t=>if isT 4 [41] t then u0 n x t.tail else wr t
def fI:Nat→List Kt→Pr bF
  | 0,t=>if isT 4 [40] t then .er t 8 else oX t
  | f + 1,t=>if isT 4 [40] t then (match fI f t.tail with
      | .er u e=>.er u e
      | .ok x u=>if isT 4 [41] u then .ok x u.tail else wr u) else oX t
def sQ (t:List Kt):Pr bF:=fI 32 t
def jC:List Kt→Pr Int
  | []=>.er [] 3
  | x :: r=>if x.1=2 then (if (mG x.2).2=0 then .ok (mG x.2).1 r else .er (x :: r) (mG x.2).2) else .er (x :: r) 1
def q9 (w:Str) (t:List Kt):Pr Int:=if isT 1 w t then jC t.tail else .ok 0 t
def j8:List Kt→Pr aJ
  | []=>.er [] 3
  | w :: t1=>if w.1=1 then (if isT 4 [61] t1 then (match t1.tail with
      | []=>.er [] 3
      | x :: t3=>if x.1=3 then .ok (⟨w.2,x.2⟩:aJ) t3 else .er (x :: t3) 1) else wr t1) else .er (w :: t1) 1
def mQ:Nat→List aJ→List Kt→Pr (List aJ)
  | 0,_,t=>.er t 0
  | f + 1,acc,t=>match j8 t with
    | .er u e=>.er u e
    | .ok p u=>if isT 4 [125] u then .ok (acc ++ [p]) u else if isT 4 [44] u then mQ f (acc ++ [p]) u.tail else wr u
def nN (acc:List aJ) (t:List Kt):Pr (List aJ):=mQ (t.length + 1) acc t
def iJ:Str:=[102,111,114]
def gT:Str:=[107,101,101,112]
def hY:Str:=[108,97,98,101,108,115]
def m5:Str:=[114,117,108,101]
def w7 (l:List aJ) (u:List Kt):Pr (List aJ) :=
  if (eU l).2=0 then (if (eU l).1.any (fun p=>mI p.1) then .er u 7 else .ok (eU l).1 u.tail) else .er u (eU l).2
def kD (t:List Kt):Pr (List aJ) :=
  if isT 4 [123] t then (match (if isT 4 [125] t.tail then .ok [] t.tail else nN [] t.tail) with
    | .er u e=>.er u e
    | .ok l u=>w7 l u) else wr t
def jP (t:List Kt):Pr (List aJ):=if isT 1 hY t then kD t.tail else .ok [] t
def sU (nm:Str) (x:bF) (t:List Kt):Pr aZ :=
  match q9 iJ t with
  | .er u e=>.er u e
  | .ok fr t1=>match q9 gT t1 with
    | .er u e=>.er u e
    | .ok kp t2=>match jP t2 with
      | .er u e=>.er u e
      | .ok l t3=>if isT 4 [59] t3 then .ok ⟨nm,x,fr,kp,l⟩ t3.tail else wr t3
def mE (t:List Kt):Pr aZ :=
  if isT 1 m5 t then (match iP t.tail with
    | .er u e=>.er u e
    | .ok nm t1=>if isT 4 [58] t1 then (match sQ t1.tail with
        | .er u e=>.er u e
        | .ok x t2=>sU nm x t2) else wr t1) else wr t
structure bH {α:Type} (t:List Kt) (r:Pr α) (Q:α→Prop) (m:Nat):Prop where
  er:∀ u e,r=.er u e→u.length≤t.length∧(∃ p,t=p ++ u)∧(e=3 ↔ u=[])∧e ≠ 0
  ok:∀ a u,r=.ok a u→u.length + m≤t.length∧(∃ p,t=p ++ u)∧Q a
theorem bH.erI {α:Type}{t u p:List Kt}{e:Int}{Q:α→Prop}{m:Nat} (hp:t=p ++ u) (h:e=3 ↔ u=[]) (h0:e ≠ 0):bH t (.er u e:Pr α) Q m :=
  ⟨fun u' e' h1=>by cases h1; exact ⟨by rw [hp,List.length_append]; omega,⟨p,hp⟩,h,h0⟩,fun _ _ h1=>by cases h1⟩
theorem bH.okI {α:Type}{t u p:List Kt}{a:α}{Q:α→Prop}{m:Nat} (hp:t=p ++ u) (hm:m≤p.length) (hq:Q a):bH t (.ok a u:Pr α) Q m :=
  ⟨fun _ _ h1=>(by cases h1),fun a' u' h1=>by cases h1; exact ⟨by rw [hp,List.length_append]; omega,⟨p,hp⟩,hq⟩⟩
theorem bH.wrI {α:Type}{t u p:List Kt}{Q:α→Prop}{m:Nat} (hp:t=p ++ u):bH t (wr u:Pr α) Q m :=
  bH.erI hp (by cases u <;> simp [wrE]) (by cases u <;> simp [wrE])
theorem bH.front {α:Type}{t u p:List Kt}{r:Pr α}{Q:α→Prop}{m k:Nat} (hp:t=p ++ u) (hk:k≤p.length + m) (h:bH u r Q m):bH t r Q k :=
  ⟨fun v e h1=>by obtain ⟨a,⟨q,b⟩,c⟩:=h.er v e h1; exact ⟨by rw [hp,List.length_append]; omega,⟨p ++ q,by rw [hp,b,List.append_assoc]⟩,c⟩,
   fun x v h1=>by obtain ⟨a,⟨q,b⟩,c⟩:=h.ok x v h1; exact ⟨by rw [hp,List.length_append]; omega,⟨p ++ q,by rw [hp,b,List.append_assoc]⟩,c⟩⟩
theorem bH.split {α:Type}{t:List Kt}{r:Pr α}{Q:α→Prop}{m:Nat} (h:bH t r Q m) :
    (∃ u e p,r=.er u e∧t=p ++ u∧(e=3 ↔ u=[])∧e ≠ 0) ∨ (∃ a u p,r=.ok a u∧t=p ++ u∧m≤p.length∧Q a):=by
  cases r with
  | er u e=>obtain ⟨_,⟨p,b⟩,c⟩:=h.er u e rfl; exact .inl ⟨u,e,p,rfl,b,c⟩
  | ok a u=>
    obtain ⟨h1,⟨p,b⟩,c⟩:=h.ok a u rfl
    have:t.length=p.length + u.length:=by rw [b,List.length_append]
    exact .inr ⟨a,u,p,rfl,b,by omega,c⟩
theorem bH.mono {α:Type}{t:List Kt}{r:Pr α}{Q R:α→Prop}{m k:Nat} (h:bH t r Q m) (hq:∀ a,Q a→R a) (hk:k≤m):bH t r R k :=
  ⟨h.er,fun a u e=>by obtain ⟨x,y,z⟩:=h.ok a u e; exact ⟨by omega,y,hq a z⟩⟩
theorem r4 {k:Int}{s:Str}{t:List Kt} (h:isT k s t=true):t=(k,s) :: t.tail:=by
  rcases t with _ | ⟨⟨a,b⟩,t⟩
  · cases h
  · simp only [isT,Bool.and_eq_true,decide_eq_true_eq] at h
    obtain ⟨rfl,rfl⟩:=h; rfl
theorem d8 {k:Int}{s:Str}{t:List Kt} (h:isT k s t=true):t=[(k,s)] ++ t.tail:=r4 h
theorem n3 (x:Kt) (t:List Kt):x :: t=[x] ++ t:=rfl
theorem b7 (t:List Kt):t=[] ++ t:=rfl
theorem gX (k:Int) (s:Str) (t:List Kt):isT k s ((k,s) :: t)=true:=by simp [isT]
theorem nB {k k2:Int}{s s2:Str} (t:List Kt) (h:s2 ≠ s ∨ k2 ≠ k):isT k s ((k2,s2) :: t)=false:=by
  simp only [isT,Bool.and_eq_false_iff,decide_eq_false_iff_not]
  rcases h with h | h
  · exact .inr h
  · exact .inl h
theorem rW (t:List Kt):bH t (iP t) (fun s=>b9 s=true) 1:=by
  rcases t with _ | ⟨x,r⟩
  · exact bH.erI (b7 _) (by simp) (by simp)
  · simp only [iP]
    split
    · split
      · exact bH.okI (n3 _ _) (by simp) (by assumption)
      · exact bH.erI (b7 _) (by simp) (by simp)
    · exact bH.erI (b7 _) (by simp) (by simp)
theorem Hj (n:Nat) (nm:Str) (nt:Bool) (h:b9 nm=true) (t:List Kt):bH t (tR n nm nt t) (fun m=>mOk m=true∧n < 8) 1:=by
  rcases t with _ | ⟨x,r⟩
  · exact bH.erI (b7 _) (by simp) (by simp)
  · simp only [tR]
    split
    · split
      · exact bH.erI (b7 _) (by simp) (by simp)
      · rename_i h2
        exact bH.okI (n3 _ _) (by simp) ⟨by unfold mOk; rw [h]; simp; omega,by omega⟩
    · exact bH.erI (b7 _) (by simp) (by simp)
theorem sV (n:Nat) (t:List Kt):bH t (nP n t) (fun m=>mOk m=true∧n < 8) 3:=by
  unfold nP
  rcases (rW t).split with ⟨u',e,p,hr,hp,h3,h0⟩ | ⟨nm,u,p,hr,hp,hl,hn⟩ <;> rw [hr] <;> dsimp only
  · exact bH.erI hp h3 h0
  refine bH.front (m:=2) hp (by omega) ?_
  split
  · rename_i h; exact (Hj n nm true hn _).front (d8 h) (by simp)
  · split
    · rename_i h; exact (Hj n nm false hn _).front (d8 h) (by simp)
    · exact bH.wrI (b7 _)
theorem Hd (nm:Str) (hn:b9 nm=true):∀ (f:Nat) (acc:List a8) (t:List Kt),acc.length + f=8→acc.all mOk=true→bH t (lS nm f acc t) (fun s=>jE s=true) 1
  | 0,acc,t,hl,ha=>by
    unfold lS
    have h:=sV acc.length t
    cases hm:nP acc.length t with
    | er u e=>obtain ⟨_,⟨p,b⟩,c⟩:=h.er u e hm; exact bH.erI b c.1 c.2
    | ok m u=>have:=(h.ok m u hm).2.2.2; omega
  | f + 1,acc,t,hl,ha=>by
    unfold lS
    rcases (sV acc.length t).split with ⟨u',e,p,hr,hp,h3,h0⟩ | ⟨m,u,p,hr,hp,hl,hm⟩ <;> rw [hr] <;> dsimp only
    · exact bH.erI hp h3 h0
    refine bH.front (m:=0) hp (by omega) ?_
    have ha2:(acc ++ [m]).all mOk=true:=by rw [List.all_append,ha]; simp [hm.1]
    split
    · rename_i h
      refine bH.okI (d8 h) (by simp) ?_
      unfold jE
      rw [hn,ha2]; simp; omega
    · split
      · rename_i h
        exact (Hd nm hn f (acc ++ [m]) u.tail (by simp; omega) ha2).front (d8 h) (by simp)
      · exact bH.wrI (b7 _)
theorem BJ (t:List Kt):bH t (yC t) (fun s=>jE s=true) 1:=by
  unfold yC
  rcases (rW t).split with ⟨u',e,p,hr,hp,h3,h0⟩ | ⟨nm,u,p,hr,hp,hl,hn⟩ <;> rw [hr] <;> dsimp only
  · exact bH.erI hp h3 h0
  refine bH.front (m:=0) hp (by omega) ?_
  have h0:jE ⟨nm,[]⟩=true:=by unfold jE; rw [hn]; rfl
  split
  · rename_i h
    split
    · rename_i h2
      exact (bH.okI (Q:=fun s=>jE s=true) (d8 h2) (m:=0) (by simp) h0).front (d8 h) (by simp)
    · exact (Hd nm hn 8 [] u.tail rfl rfl).front (d8 h) (by simp)
  · exact bH.okI (b7 _) (by simp) h0
theorem Rt (s:Str):0≤opB s∧opB s≤6:=by
  unfold opB
  repeat' split
  all_goals omega
theorem JF (t:List Kt):0≤opP t∧opP t≤6:=by
  rcases t with _ | ⟨x,r⟩
  · simp [opP]
  · simp only [opP]; split
    · exact Rt _
    · omega
theorem Lj (b:Bool) {x:Int} (h:0≤x):m0 (pX b x).1=true∧((pX b x).2=0 ∨ (pX b x).2=2):=by
  unfold pX
  split
  · cases b
    · exact ⟨lX.2 (by simp; omega),.inl rfl⟩
    · exact ⟨lX.2 (by simp; omega),.inl rfl⟩
  · exact ⟨rfl,.inr rfl⟩
theorem QL (s:Str):m0 (m4 s).1=true∧((m4 s).2=0 ∨ (m4 s).2=1 ∨ (m4 s).2=2):=by
  unfold m4
  split
  · split
    · exact ⟨rfl,.inr (.inl rfl)⟩
    · have:=Lj (fY s).2 (Int.mul_nonneg (iO _ (jD (fY s).1) (Int.le_refl 0)) (show (0:Int)≤1000 by omega))
      refine ⟨this.1,?_⟩
      rcases this.2 with h | h
      · exact .inl h
      · exact .inr (.inr h)
  · rename_i c r _
    split
    · rename_i h
      have hall:∀ d ∈ (fY s).1.takeWhile isD ++ r,isD d=true:=by
        intro d hd
        rcases List.mem_append.1 hd with hd | hd
        · exact jD _ d hd
        · have e:=List.takeWhile_append_dropWhile (p:=isD) (l:=r)
          rw [h.2.2.1,List.append_nil] at e
          rw [← e] at hd
          exact jD _ d hd
      have:=Lj (fY s).2 (Int.mul_nonneg (iO _ hall (Int.le_refl 0)) (Int.pow_nonneg (m:=3 - r.length) (show (0:Int)≤10 by omega)))
      refine ⟨this.1,?_⟩
      rcases this.2 with h | h
      · exact .inl h
      · exact .inr (.inr h)
    · exact ⟨rfl,.inr (.inl rfl)⟩
theorem IM:∀ (f:Nat) (s:Str) (fr:Nat) (sum:Int),(nG f s fr sum).2=0 ∨ (nG f s fr sum).2=1 ∨ (nG f s fr sum).2=2
  | f,[],fr,sum=>by
    rw [sG]; unfold mL
    split
    · exact .inl rfl
    · exact .inr (.inr rfl)
  | 0,c :: s,fr,sum=>.inr (.inl rfl)
  | f + 1,c :: s,fr,sum=>by
    unfold nG
    split
    · exact .inr (.inl rfl)
    · split
      · exact .inr (.inl rfl)
      · split
        · exact IM f _ _ _
        · exact .inr (.inl rfl)
theorem OT (s:Str):(mG s).2=0 ∨ (mG s).2=1 ∨ (mG s).2=2:=by
  unfold mG
  split
  · exact .inr (.inl rfl)
  · exact IM _ _ _ _
theorem Ni (s:bM) (k:Int) (hs:jE s=true) (hk:1≤k∧k≤6) (t:List Kt):bH t (vP s k t) (fun x=>gP x=true) 1:=by
  rcases t with _ | ⟨x,r⟩
  · exact bH.erI (b7 _) (by simp) (by simp)
  · simp only [vP]
    have hn:=QL x.2
    split
    · split
      · refine bH.okI (n3 _ _) (by simp) ?_
        unfold gP
        rw [hs,hn.1]; simp; omega
      · rename_i h
        exact bH.erI (b7 _) (by simp; omega) h
    · exact bH.erI (b7 _) (by simp) (by simp)
theorem Jx {t:List Kt} (h:opP t ≠ 0):∃ x,t=[x] ++ t.tail:=by
  rcases t with _ | ⟨x,r⟩
  · exact absurd rfl h
  · exact ⟨x,rfl⟩
theorem CW (t:List Kt):bH t (oX t) (fun x=>gP x=true) 3:=by
  unfold oX
  rcases (BJ t).split with ⟨u',e,p,hr,hp,h3,h0⟩ | ⟨s,u,p,hr,hp,hl,hs⟩ <;> rw [hr] <;> dsimp only
  · exact bH.erI hp h3 h0
  refine bH.front (m:=2) hp (by omega) ?_
  split
  · exact bH.wrI (b7 _)
  · rename_i h
    obtain ⟨x,e⟩:=Jx h
    have:=JF u
    exact (Ni s (opP u) hs (by omega) u.tail).front e (by simp)
theorem nU:∀ (f:Nat) (t:List Kt),bH t (fI f t) (fun x=>gP x=true) 3
  | 0,t=>by
    unfold fI
    split
    · rename_i h
      refine bH.erI (b7 _) ?_ (by simp)
      rw [r4 h]; simp
    · exact CW t
  | f + 1,t=>by
    unfold fI
    split
    · rename_i h
      refine bH.front (d8 h) (m:=3) (by simp) ?_
      rcases (nU f t.tail).split with ⟨u',e,p,hr,hp,h3,h0⟩ | ⟨x,u,p,hr,hp,hl,hx⟩ <;> rw [hr] <;> dsimp only
      · exact bH.erI hp h3 h0
      refine bH.front (m:=0) hp (by omega) ?_
      split
      · rename_i h2; exact bH.okI (d8 h2) (by simp) hx
      · exact bH.wrI (b7 _)
    · exact CW t
theorem Bz (t:List Kt):bH t (jC t) (fun x=>tmB x=true) 1:=by
  rcases t with _ | ⟨x,r⟩
  · exact bH.erI (b7 _) (by simp) (by simp)
  · simp only [jC]
    have hn:=OT x.2
    split
    · split
      · exact bH.okI (n3 _ _) (by simp) (Qv _)
      · rename_i h
        exact bH.erI (b7 _) (by simp; omega) h
    · exact bH.erI (b7 _) (by simp) (by simp)
theorem wP (w:Str) (t:List Kt):bH t (q9 w t) (fun x=>tmB x=true) 0:=by
  unfold q9
  split
  · rename_i h; exact (Bz _).front (d8 h) (by simp)
  · exact bH.okI (b7 _) (by simp) rfl
theorem oE (t:List Kt):bH t (j8 t) (fun _=>True) 3:=by
  rcases t with _ | ⟨x,r⟩
  · exact bH.erI (b7 _) (by simp) (by simp)
  · simp only [j8]
    split
    · split
      · rename_i h
        rcases hr:r.tail with _ | ⟨y,r2⟩
        · refine bH.erI (p:=[x,(4,[61])]) ?_ (by simp) (by simp)
          rw [r4 h,hr]; rfl
        · simp only
          split
          · refine bH.okI (p:=[x,(4,[61]),y]) ?_ (by simp) trivial
            rw [r4 h,hr]; rfl
          · refine bH.erI (p:=[x,(4,[61])]) ?_ (by simp) (by simp)
            rw [r4 h,hr]; rfl
      · exact bH.wrI (n3 _ _)
    · exact bH.erI (b7 _) (by simp) (by simp)
theorem yB:∀ (f:Nat) (acc:List aJ) (t:List Kt),t.length < f→bH t (mQ f acc t) (fun _=>True) 3
  | 0,_,_,h=>by omega
  | f + 1,acc,t,h=>by
    unfold mQ
    have hp:=oE t
    cases hm:j8 t with
    | er u e=>obtain ⟨_,⟨p,b⟩,c⟩:=hp.er u e hm; exact bH.erI b c.1 c.2
    | ok m u=>
      obtain ⟨h1,⟨p,b⟩,_⟩:=hp.ok m u hm
      have hl:t.length=p.length + u.length:=by rw [b,List.length_append]
      simp only
      split
      · exact bH.okI b (by omega) trivial
      · split
        · rename_i h2
          have h3:=congrArg List.length (d8 h2)
          rw [List.length_append] at h3
          refine bH.front (p:=p ++ [(4,[44])]) ?_ (m:=3) (by simp) (yB f (acc ++ [m]) u.tail (by omega))
          rw [List.append_assoc,← d8 h2]; exact b
        · exact bH.wrI b
theorem CV:∀ (f g:Nat) (acc:List aJ) (t:List Kt),t.length < f→t.length < g→mQ f acc t=mQ g acc t
  | 0,_,_,_,h,_=>by omega
  | _ + 1,0,_,_,_,h=>by omega
  | f + 1,g + 1,acc,t,h1,h2=>by
    unfold mQ
    have hp:=oE t
    cases hm:j8 t with
    | er u e=>rfl
    | ok m u=>
      have:=(hp.ok m u hm).1
      simp only
      split
      · rfl
      · split
        · have:u.tail.length≤u.length:=by simp
          exact CV f g _ _ (by omega) (by omega)
        · rfl
theorem wJ (acc:List aJ) (t:List Kt):nN acc t=match j8 t with
    | .er u e=>.er u e
    | .ok p u=>if isT 4 [125] u then .ok (acc ++ [p]) u else if isT 4 [44] u then nN (acc ++ [p]) u.tail else wr u:=by
  unfold nN
  conv=>lhs; unfold mQ
  have hp:=oE t
  cases hm:j8 t with
  | er u e=>rfl
  | ok m u=>
    have:=(hp.ok m u hm).1
    simp only
    split
    · rfl
    · split
      · have:u.tail.length≤u.length:=by simp
        exact CV _ _ _ _ (by omega) (by omega)
      · rfl
theorem M7 (l:List aJ):(eU l).2=0 ∨ (eU l).2=4 ∨ (eU l).2=6 ∨ (eU l).2=7:=by
  unfold eU kR
  repeat' split
  all_goals simp_all
theorem Me {l:List aJ} (h:(eU l).2=0):gE (eU l).1=true:=by
  by_cases hg:uV l
  · rw [AJ hg]; exact LZ hg
  · exact absurd h (Np hg).2.1
def ED (l:List aJ):Prop:=gE l=true∧(l.any fun p=>mI p.1)=false
theorem LL (l:List aJ) (u:List Kt) (hu:u ≠ []):bH u (w7 l u) ED 1:=by
  unfold w7
  have he:=M7 l
  split
  · rename_i h
    split
    · exact bH.erI (b7 _) (by simp [hu]) (by simp)
    · rename_i h2
      rcases u with _ | ⟨x,u⟩
      · exact absurd rfl hu
      · exact bH.okI (n3 _ _) (by simp) ⟨Me h,by simpa using h2⟩
  · rename_i h
    exact bH.erI (b7 _) (by simp [hu]; omega) h
theorem Ak:∀ (f:Nat) (acc:List aJ) (t:List Kt) (l:List aJ) (u:List Kt),mQ f acc t=.ok l u→isT 4 [125] u=true
  | 0,_,_,_,_,h=>by cases h
  | f + 1,acc,t,l,u,h=>by
    unfold mQ at h
    split at h
    · cases h
    · split at h
      · cases h; assumption
      · split at h
        · exact Ak f _ _ _ _ h
        · cases h
theorem Ci (t:List Kt):bH t (kD t) ED 2:=by
  unfold kD
  split
  · rename_i h
    refine bH.front (d8 h) (m:=1) (by simp) ?_
    have hne:∀ u:List Kt,isT 4 [125] u=true→u ≠ []:=fun u h h2=>by rw [h2] at h; cases h
    have:bH t.tail (if isT 4 [125] t.tail then .ok [] t.tail else nN [] t.tail:Pr (List aJ)) (fun _=>True) 0:=by
      split
      · exact bH.okI (b7 _) (by simp) trivial
      · exact (yB _ _ _ (by omega)).mono (fun _ h=>h) (by omega)
    cases hm:(if isT 4 [125] t.tail then .ok [] t.tail else nN [] t.tail:Pr (List aJ)) with
    | er u e=>obtain ⟨_,⟨p,b⟩,c⟩:=this.er u e hm; exact bH.erI b c.1 c.2
    | ok l u=>
      obtain ⟨h1,⟨p,b⟩,_⟩:=this.ok l u hm
      refine bH.front b (m:=1) (by omega) (LL l u (hne u ?_))
      split at hm
      · cases hm; assumption
      · exact Ak _ _ _ _ _ hm
  · exact bH.wrI (b7 _)
theorem BV (t:List Kt):bH t (jP t) ED 0:=by
  unfold jP
  split
  · rename_i h; exact (Ci _).front (d8 h) (by simp)
  · exact bH.okI (b7 _) (by simp) ⟨rfl,rfl⟩
theorem Mt (nm:Str) (x:bF) (hn:b9 nm=true) (hx:gP x=true) (t:List Kt):bH t (sU nm x t) (fun r=>dB r=true) 1:=by
  unfold sU
  rcases (wP iJ t).split with ⟨u',e,p,hr,hp,h3,h0⟩ | ⟨fr,t1,p,hr,hp,hl,hf⟩ <;> rw [hr] <;> dsimp only
  · exact bH.erI hp h3 h0
  refine bH.front (m:=1) hp (by omega) ?_
  rcases (wP gT t1).split with ⟨u',e,p,hr,hp,h3,h0⟩ | ⟨kp,t2,p,hr,hp,hl,hk⟩ <;> rw [hr] <;> dsimp only
  · exact bH.erI hp h3 h0
  refine bH.front (m:=1) hp (by omega) ?_
  rcases (BV t2).split with ⟨u',e,p,hr,hp,h3,h0⟩ | ⟨l,t3,p,hr,hp,hl,hl⟩ <;> rw [hr] <;> dsimp only
  · exact bH.erI hp h3 h0
  refine bH.front (m:=1) hp (by omega) ?_
  split
  · rename_i h
    refine bH.okI (d8 h) (by simp) ?_
    unfold dB
    simp only
    rw [hn,hx,hf,hk,hl.1,hl.2]; rfl
  · exact bH.wrI (b7 _)
theorem AL (t:List Kt):bH t (mE t) (fun r=>dB r=true) 7:=by
  unfold mE
  split
  · rename_i h
    refine bH.front (d8 h) (m:=6) (by simp) ?_
    rcases (rW t.tail).split with ⟨u',e,p,hr,hp,h3,h0⟩ | ⟨nm,t1,p,hr,hp,hl,hn⟩ <;> rw [hr] <;> dsimp only
    · exact bH.erI hp h3 h0
    refine bH.front (m:=5) hp (by omega) ?_
    split
    · rename_i h2
      refine bH.front (d8 h2) (m:=4) (by simp) ?_
      unfold sQ
      rcases (nU 32 t1.tail).split with ⟨u',e,p,hr,hp,h3,h0⟩ | ⟨x,t2,p,hr,hp,hl,hx⟩ <;> rw [hr] <;> dsimp only
      · exact bH.erI hp h3 h0
      refine bH.front (m:=1) hp (by omega) ?_
      exact Mt nm x hn hx t2
    · exact bH.wrI (b7 _)
  · exact bH.wrI (b7 _)
end Go.Proofs.YtgkmbhllcekagaaGreatDoor.AM
/- The lexer: of printed pieces the kinds and texts. -/
namespace Go.Proofs.YtgkmbhllcekagaaGreatDoor.AM
open Go
open Go.Lib (decDigits)
def kv (x:aK):Kt:=(x.K,x.S)
def LX (t:Str) (ks:List Kt):Prop:=t.length≤1000000→∀ a,∃ l,Lx t a l∧l.map kv=ks
def Off (p:UInt8→Bool) (t:Str):Prop:=∀ c r,t=c :: r→p c=false
theorem Off.cons {p:UInt8→Bool}{c:UInt8}{t:Str} (h:p c=false):Off p (c :: t):=fun _ _ e=>by cases e; exact h
theorem Jd (p:UInt8→Bool):∀ (l r:Str),(∀ c ∈ l,p c=true)→Off p r→(l ++ r).takeWhile p=l
  | [],r,_,hr=>by
    rcases r with _ | ⟨c,r⟩
    · rfl
    · simp [List.takeWhile_cons,hr c r rfl]
  | c :: l,r,hl,hr=>by
    have h1:=Jd p l r (fun d hd=>hl d (by simp [hd])) hr
    simp [List.takeWhile_cons,hl c (by simp),h1]
theorem LX.nil:LX [] []:=fun _ a=>⟨[],.nil a,rfl⟩
theorem LX.sp {c:UInt8}{t:Str}{ks:List Kt} (hc:isW c=true) (h:LX t ks):LX (c :: t) ks:=fun hl a=>by
  obtain ⟨l,h1,h2⟩:=h (by simp at hl; omega) (a + 1)
  exact ⟨l,.sp hc h1,h2⟩
theorem F2 {w:Str}{c:UInt8}{t:Str}{p:Bool} (hw:∀ d ∈ w,isR p d=true) (ho:Off (isR p) t) (hl:(c :: w ++ t).length≤1000000):mX (c :: w ++ t) p=some ((c :: w).length:Int):=by
  rw [MF _ _ hl]
  simp only [List.cons_append,List.drop_succ_cons,List.drop_zero,Jd _ w t hw ho,List.length_cons]
  congr 1; omega
theorem Nt {c:UInt8} (h:isL c=true):isW c=false∧c ≠ 35∧isR false c=true:=by
  refine ⟨?_,?_,by unfold isR; rw [h]; rfl⟩
  · cases hw:isW c
    · rfl
    · exfalso
      unfold isW at hw
      simp only [Bool.or_eq_true,decide_eq_true_eq] at hw
      rcases hw with ((rfl | rfl) | rfl) | rfl <;> revert h <;> decide
  · rintro rfl; revert h; decide
theorem Co {c:UInt8} (h:isD c=true):isW c=false∧c ≠ 35∧isL c=false∧isR true c=true:=by
  have h2:=jR.1 h
  refine ⟨?_,?_,?_,?_⟩
  · cases hw:isW c
    · rfl
    · exfalso
      unfold isW at hw
      simp only [Bool.or_eq_true,decide_eq_true_eq] at hw
      rcases hw with ((rfl | rfl) | rfl) | rfl <;> revert h <;> decide
  · rintro rfl; revert h; decide
  · unfold isL oK
    simp; omega
  · unfold isR; rw [h]; simp
theorem LX.word {c:UInt8}{w t:Str}{ks:List Kt} (hc:isL c=true) (hw:∀ d ∈ w,isR false d=true) (ho:Off (isR false) t) (h:LX t ks):LX (c :: w ++ t) ((1,c :: w) :: ks):=fun hl a=>by
  obtain ⟨l,h1,h2⟩:=h (by simp only [List.length_append] at hl; omega) (a + (c :: w).length)
  obtain ⟨f1,f2,_⟩:=Nt hc
  exact ⟨⟨1,a,c :: w⟩ :: l,.run (.inl rfl) ⟨c,w,rfl,f1,f2⟩ (KN (by rfl) hc) (F2 hw ho hl) h1,by simp [kv,h2]⟩
theorem LX.num {c:UInt8}{w t:Str}{ks:List Kt} (hc:isD c=true) (hw:∀ d ∈ w,isR true d=true) (ho:Off (isR true) t) (h:LX t ks):LX (c :: w ++ t) ((2,c :: w) :: ks):=fun hl a=>by
  obtain ⟨l,h1,h2⟩:=h (by simp only [List.length_append] at hl; omega) (a + (c :: w).length)
  obtain ⟨f1,f2,f3,_⟩:=Co hc
  exact ⟨⟨2,a,c :: w⟩ :: l,.run (.inr rfl) ⟨c,w,rfl,f1,f2⟩ (MI (by rfl) f3 hc) (F2 hw ho hl) h1,by simp [kv,h2]⟩
theorem LX.neg {c:UInt8}{w t:Str}{ks:List Kt} (hc:isD c=true) (hw:∀ d ∈ w,isR true d=true) (ho:Off (isR true) t) (h:LX t ks):LX (45 :: c :: w ++ t) ((2,45 :: c :: w) :: ks):=fun hl a=>by
  obtain ⟨l,h1,h2⟩:=h (by simp only [List.length_append] at hl; omega) (a + (45 :: c :: w).length)
  obtain ⟨f1,f2,f3,f4⟩:=Co hc
  exact ⟨⟨2,a,45 :: c :: w⟩ :: l,.run (.inr rfl) ⟨45,c :: w,rfl,by decide,by decide⟩ (LP (d:=c) (by rfl) (by rfl) hc) (F2 (fun d hd=>by
    rcases List.mem_cons.1 hd with rfl | hd
    · exact f4
    · exact hw d hd) ho hl) h1,by simp [kv,h2]⟩
theorem LX.text {v t:Str}{ks:List Kt} (h:LX t ks):LX (cN v ++ t) ((3,v) :: ks):=fun hl a=>by
  obtain ⟨l,h1,h2⟩:=h (by simp only [List.length_append] at hl; omega) (a + (cN v).length)
  exact ⟨⟨3,a,v⟩ :: l,.text h1,by simp [kv,h2]⟩
theorem LX.sign1 {c:UInt8}{t:Str}{ks:List Kt} (hc:isL c=false∧isD c=false∧c ≠ 45∧c ≠ 34∧¬ 0≤Lib.indexByte [61,33,60,62] c∧0≤Lib.indexByte [123,125,40,41,44,58,59,61,60,62] c) (h2:isW c=false∧c ≠ 35) (h:LX t ks):LX (c :: t) ((4,[c]) :: ks):=fun hl a=>by
  obtain ⟨l,h1,h3⟩:=h (by simp only [List.length_cons] at hl; omega) (a + [c].length)
  exact ⟨⟨4,a,[c]⟩ :: l,.sign (w:=[c]) ⟨c,[],rfl,h2⟩ (JL (t:=[c] ++ t) (by rfl) hc) h1,by simp [kv,h3]⟩
theorem LX.sign2 {c:UInt8}{t:Str}{ks:List Kt} (hc:isL c=false∧isD c=false∧c ≠ 45∧c ≠ 34∧0≤Lib.indexByte [61,33,60,62] c) (h2:isW c=false∧c ≠ 35) (h:LX t ks):LX (c :: 61 :: t) ((4,[c,61]) :: ks):=fun hl a=>by
  obtain ⟨l,h1,h3⟩:=h (by simp only [List.length_cons] at hl; omega) (a + [c,61].length)
  exact ⟨⟨4,a,[c,61]⟩ :: l,.sign (w:=[c,61]) ⟨c,[61],rfl,h2⟩ (J5 (t:=[c,61] ++ t) (by rfl) (by rfl) hc) h1,by simp [kv,h3]⟩
theorem LX.sign3 {c d:UInt8}{t:Str}{ks:List Kt} (hd:d ≠ 61) (hc:isL c=false∧isD c=false∧c ≠ 45∧c ≠ 34∧0≤Lib.indexByte [61,33,60,62] c∧0≤Lib.indexByte [123,125,40,41,44,58,59,61,60,62] c) (h2:isW c=false∧c ≠ 35) (h:LX (d :: t) ks):LX (c :: d :: t) ((4,[c]) :: ks):=fun hl a=>by
  obtain ⟨l,h1,h3⟩:=h (by simp only [List.length_cons] at hl ⊢; omega) (a + [c].length)
  exact ⟨⟨4,a,[c]⟩ :: l,.sign (w:=[c]) ⟨c,[],rfl,h2⟩ (Ir (t:=[c] ++ d :: t) (c:=c) (d:=d) (by rfl) (by rfl) hd hc) h1,by simp [kv,h3]⟩
theorem M1 (c:UInt8) (s:Str) (i:Nat):nT (c :: s) (i + 1)=isR false (s.getD i 0):=by
  unfold nT isR isL isD uX
  simp only [List.getD_cons_succ]
  generalize s.getD i 0=d
  rw [show decide ((48:Int)≤(d.toNat:Int))=decide (48≤d.toNat) from by rw [decide_eq_decide]; omega,show decide ((d.toNat:Int)≤57)=decide (d.toNat≤57) from by rw [decide_eq_decide]; omega]
  simp
theorem C8 {s:Str} (h:b9 s=true):∃ c w,s=c :: w∧isL c=true∧(∀ d ∈ w,isR false d=true)∧w.length < 64:=by
  simp only [b9,Bool.and_eq_true,decide_eq_true_eq,List.all_eq_true,List.mem_range] at h
  obtain ⟨⟨h1,h2⟩,h3⟩:=h
  rcases s with _ | ⟨c,w⟩
  · simp at h1
  · refine ⟨c,w,rfl,?_,?_,by simp at h2; omega⟩
    · have:=h3 0 (by simp)
      unfold nT at this
      simpa [isL] using this
    · intro d hd
      obtain ⟨i,hi,rfl⟩:=List.mem_iff_getElem.1 hd
      have:=h3 (i + 1) (by simp; omega)
      rw [M1] at this
      rw [List.getD_eq_getElem?_getD,List.getElem?_eq_getElem hi] at this
      exact this
theorem LX.name {s t:Str}{ks:List Kt} (hs:b9 s=true) (ho:Off (isR false) t) (h:LX t ks):LX (s ++ t) ((1,s) :: ks):=by
  obtain ⟨c,w,rfl,h1,h2,_⟩:=C8 hs
  exact LX.word h1 h2 ho h
theorem y5 {c:UInt8} (h:isD c=true):isR true c=true:=(Co h).2.2.2
theorem Oz (r:Nat) (hr:r < 1000):∀ d ∈ iE r,isR true d=true:=by
  have d1:=y5 (oG (show r / 100 < 10 by omega))
  have d2:=y5 (oG (show r / 10 % 10 < 10 by omega))
  have d3:=y5 (oG (show r % 10 < 10 by omega))
  have d0:isR true 46=true:=by decide
  intro d hd
  unfold iE at hd
  split at hd
  · cases hd
  · split at hd
    · simp only [List.mem_cons,List.not_mem_nil,or_false] at hd
      rcases hd with rfl | rfl <;> assumption
    · split at hd
      · simp only [List.mem_cons,List.not_mem_nil,or_false] at hd
        rcases hd with rfl | rfl | rfl <;> assumption
      · simp only [List.mem_cons,List.not_mem_nil,or_false] at hd
        rcases hd with rfl | rfl | rfl | rfl <;> assumption
theorem Mu (u:Nat):∀ d ∈ iT u,isR true d=true:=by
  intro d hd
  unfold iT at hd
  rcases List.mem_append.1 hd with hd | hd
  · exact y5 (uR _ d hd)
  · exact Oz _ (by omega) d hd
theorem LX.printN {v:Int}{t:Str}{ks:List Kt} (hv:m0 v=true) (ho:Off (isR true) t) (h:LX t ks):LX (Go.Proofs.YtgkmbhllcekagaaGreatDoor.AM.printN v ++ t) ((2,Go.Proofs.YtgkmbhllcekagaaGreatDoor.AM.printN v) :: ks):=by
  unfold Go.Proofs.YtgkmbhllcekagaaGreatDoor.AM.printN
  rw [if_pos hv]
  obtain ⟨c,w,e,hc⟩:=CT v.natAbs
  have hr:=Mu v.natAbs
  rw [e] at hr ⊢
  have hw:∀ d ∈ w,isR true d=true:=fun d hd=>hr d (by simp [hd])
  by_cases hn:v < 0
  · rw [if_pos hn]; exact LX.neg hc hw ho h
  · rw [if_neg hn]; exact LX.num hc hw ho h
theorem Oo {i:Nat}{n:Str}{k:Nat} (h:dH[i]?=some (n,k)):∀ c ∈ n,isR true c=true:=by
  have:i < 5:=(List.getElem?_eq_some_iff.1 h).1
  have:i=0 ∨ i=1 ∨ i=2 ∨ i=3 ∨ i=4:=by omega
  rcases this with rfl | rfl | rfl | rfl | rfl <;> simp only [dH,List.getElem?_cons_zero,List.getElem?_cons_succ,Option.some.injEq,Prod.mk.injEq] at h <;> obtain ⟨rfl,rfl⟩:=h <;> decide
theorem De:∀ (j i d:Nat),i + j=5→∀ c ∈ eB (dH.drop i) d,isR true c=true
  | 0,i,d,hi,c,hc=>by
    have:i=5:=by omega
    subst this
    cases hc
  | j + 1,i,d,hi,c,hc=>by
    obtain ⟨n,k,hu,hd,_⟩:=wR i (by omega)
    rw [hd] at hc
    unfold eB at hc
    rcases List.mem_append.1 hc with hc | hc
    · split at hc
      · rcases List.mem_append.1 hc with hc | hc
        · exact y5 (uR _ c hc)
        · exact Oo hu c hc
      · cases hc
    · exact De j (i + 1) _ (by omega) c hc
theorem Fp:∀ (j i d:Nat),i + j=5→(i=5→d=0)→d ≠ 0→eB (dH.drop i) d ≠ []
  | 0,i,d,hi,h5,h0=>by exact absurd (h5 (by omega)) h0
  | j + 1,i,d,hi,_,h0=>by
    obtain ⟨n,k,hu,hd,hk,hk4⟩:=wR i (by omega)
    rw [hd]
    unfold eB
    by_cases hp:0 < d / k
    · rw [if_pos hp]
      have:=tK (d / k)
      simp [this]
    · rw [if_neg hp,List.nil_append]
      have:d / k=0:=Nat.le_zero.1 (Nat.not_lt.1 hp)
      have h2:=Nat.div_add_mod d k
      rw [this,Nat.mul_zero,Nat.zero_add] at h2
      refine Fp j (i + 1) _ (by omega) (fun h=>?_) (by omega)
      rw [hk4 (by omega)]; exact Nat.mod_one d
theorem Kj {v:Int} (h:tmB v=true):∃ c w,printD v=c :: w∧isD c=true∧∀ d ∈ w,isR true d=true:=by
  have hv:=oD.1 h
  unfold printD
  rw [if_pos h]
  by_cases h0:v=0
  · rw [if_pos h0]; exact ⟨48,[115],rfl,by decide,by decide⟩
  · rw [if_neg h0]
    have h1:=vF dH v.toNat
    have h2:=De 5 0 v.toNat rfl
    have h3:=Fp 5 0 v.toNat rfl (by omega) (by omega)
    rw [List.drop_zero] at h2 h3
    rcases hp:eB dH v.toNat with _ | ⟨c,w⟩
    · exact absurd hp h3
    · rw [hp] at h2
      exact ⟨c,w,rfl,h1 c w hp,fun d hd=>h2 d (by simp [hd])⟩
theorem LX.printD {v:Int}{t:Str}{ks:List Kt} (hv:tmB v=true) (ho:Off (isR true) t) (h:LX t ks):LX (Go.Proofs.YtgkmbhllcekagaaGreatDoor.AM.printD v ++ t) ((2,Go.Proofs.YtgkmbhllcekagaaGreatDoor.AM.printD v) :: ks):=by
  obtain ⟨c,w,e,hc,hw⟩:=Kj hv
  rw [e]
  exact LX.num hc hw ho h
/- The texts. -/
def matchS (m:a8):Str:=m.Name ++ ((if m.Not then [33,61] else [61]) ++ cN m.Value)
def selM (b:UInt8):List a8→Str
  | []=>[]
  | m :: ms=>b :: (matchS m ++ selM 44 ms)
def selS (s:bM):Str:=s.Name ++ (if s.M=[] then [] else selM 123 s.M ++ [125])
def signS (k:Int):Str:=if k=1 then [62] else if k=2 then [62,61] else if k=3 then [60] else if k=4 then [60,61] else if k=5 then [61,61] else if k=6 then [33,61] else []
def condS (x:bF):Str:=selS x.S ++ (32 :: (signS x.Op ++ (32 :: printN x.V)))
def optS (w:Str) (d:Int):Str:=if 0 < d then 32 :: (w ++ (32 :: printD d)) else []
def labM (b:Str):List aJ→Str
  | []=>[]
  | p :: ps=>b ++ (p.1 ++ (61 :: (cN p.2 ++ labM [44] ps)))
def labS (l:List aJ):Str:=if l=[] then [] else labM (32 :: (hY ++ [32,123])) l ++ [125]
def ruleS (r:aZ):Str:=m5 ++ (32 :: (r.Name ++ (58 :: 32 :: (condS r.E ++ (optS iJ r.For ++ (optS gT r.Keep ++ (labS r.Labels ++ [59])))))))
/- Their tokens. -/
def vD (m:a8):List Kt:=[(1,m.Name),(4,if m.Not then [33,61] else [61]),(3,m.Value)]
def wL (b:UInt8):List a8→List Kt
  | []=>[]
  | m :: ms=>(4,[b]) :: (vD m ++ wL 44 ms)
def GD (s:bM):List Kt:=(1,s.Name) :: (if s.M=[] then [] else wL 123 s.M ++ [(4,[125])])
def wS (x:bF):List Kt:=GD x.S ++ [(4,signS x.Op),(2,printN x.V)]
def xE (w:Str) (d:Int):List Kt:=if 0 < d then [(1,w),(2,printD d)] else []
def sP (b:List Kt):List aJ→List Kt
  | []=>[]
  | p :: ps=>b ++ ((1,p.1) :: (4,[61]) :: (3,p.2) :: sP [(4,[44])] ps)
def B6 (l:List aJ):List Kt:=if l=[] then [] else sP [(1,hY),(4,[123])] l ++ [(4,[125])]
def lI (r:aZ):List Kt:=(1,m5) :: (1,r.Name) :: (4,[58]) :: (wS r.E ++ (xE iJ r.For ++ (xE gT r.Keep ++ B6 r.Labels)))
def uB (r:aZ):List Kt:=lI r ++ [(4,[59])]
theorem LX.matchS {m:a8}{t:Str}{ks:List Kt} (hm:mOk m=true) (h:LX t ks):LX (Go.Proofs.YtgkmbhllcekagaaGreatDoor.AM.matchS m ++ t) (vD m ++ ks):=by
  unfold Go.Proofs.YtgkmbhllcekagaaGreatDoor.AM.matchS vD
  simp only [mOk,Bool.and_eq_true,decide_eq_true_eq] at hm
  rw [List.append_assoc]
  refine LX.name hm.1 ?_ ?_
  · cases m.Not <;> exact Off.cons (by decide)
  · cases m.Not
    · exact LX.sign3 (c:=61) (d:=34) (by decide) (by decide) (by decide) (LX.text h)
    · exact LX.sign2 (c:=33) (by decide) (by decide) (LX.text h)
theorem LX.selM:∀ (ms:List a8) (b:UInt8) {t:Str}{ks:List Kt},ms.all mOk=true→b=123 ∨ b=44→LX t ks→LX (Go.Proofs.YtgkmbhllcekagaaGreatDoor.AM.selM b ms ++ t) (wL b ms ++ ks)
  | [],b,t,ks,_,_,h=>h
  | m :: ms,b,t,ks,hm,hb,h=>by
    rw [List.all_cons,Bool.and_eq_true] at hm
    have ih:=LX.selM ms 44 hm.2 (.inr rfl) h
    have:=LX.matchS hm.1 ih
    unfold Go.Proofs.YtgkmbhllcekagaaGreatDoor.AM.selM wL
    rw [List.cons_append,List.cons_append,List.append_assoc,List.append_assoc]
    rcases hb with rfl | rfl
    · exact LX.sign1 (by decide) (by decide) this
    · exact LX.sign1 (by decide) (by decide) this
theorem LX.selS {s:bM}{t:Str}{ks:List Kt} (hs:jE s=true) (ho:Off (isR false) t) (h:LX t ks):LX (Go.Proofs.YtgkmbhllcekagaaGreatDoor.AM.selS s ++ t) (GD s ++ ks):=by
  unfold Go.Proofs.YtgkmbhllcekagaaGreatDoor.AM.selS GD
  simp only [jE,Bool.and_eq_true,decide_eq_true_eq] at hs
  rw [List.append_assoc,List.cons_append]
  refine LX.name hs.1.1 ?_ ?_
  · by_cases hm:s.M=[]
    · rw [if_pos hm]; exact ho
    · rw [if_neg hm]
      rcases hl:s.M with _ | ⟨m,ms⟩
      · exact absurd hl hm
      · exact Off.cons (by decide)
  · by_cases hm:s.M=[]
    · rw [if_pos hm,if_pos hm]; exact h
    · rw [if_neg hm,if_neg hm,List.append_assoc,List.append_assoc]
      exact LX.selM s.M 123 hs.2 (.inl rfl) (LX.sign1 (by decide) (by decide) h)
theorem LX.signS {k:Int} (hk:1≤k∧k≤6) {t:Str}{ks:List Kt} (h:LX (32 :: t) ks):LX (Go.Proofs.YtgkmbhllcekagaaGreatDoor.AM.signS k ++ (32 :: t)) ((4,Go.Proofs.YtgkmbhllcekagaaGreatDoor.AM.signS k) :: ks):=by
  have:k=1 ∨ k=2 ∨ k=3 ∨ k=4 ∨ k=5 ∨ k=6:=by omega
  rcases this with rfl | rfl | rfl | rfl | rfl | rfl
  · exact LX.sign3 (c:=62) (d:=32) (by decide) (by decide) (by decide) h
  · exact LX.sign2 (c:=62) (by decide) (by decide) h
  · exact LX.sign3 (c:=60) (d:=32) (by decide) (by decide) (by decide) h
  · exact LX.sign2 (c:=60) (by decide) (by decide) h
  · exact LX.sign2 (c:=61) (by decide) (by decide) h
  · exact LX.sign2 (c:=33) (by decide) (by decide) h
theorem LX.condS {x:bF}{t:Str}{ks:List Kt} (hx:gP x=true) (ho:Off (isR true) t) (h:LX t ks):LX (Go.Proofs.YtgkmbhllcekagaaGreatDoor.AM.condS x ++ t) (wS x ++ ks):=by
  unfold Go.Proofs.YtgkmbhllcekagaaGreatDoor.AM.condS wS
  simp only [gP,Bool.and_eq_true,decide_eq_true_eq] at hx
  simp only [List.append_assoc,List.cons_append,List.nil_append]
  refine LX.selS hx.1.1 (Off.cons (by decide)) ?_
  refine LX.sp (by decide) ?_
  exact LX.signS hx.1.2 (LX.sp (by decide) (LX.printN hx.2 ho h))
theorem LG (w:Str) (d:Int) (t:Str) (h:Off (isR true) t):Off (isR true) (optS w d ++ t):=by
  unfold optS; split
  · exact Off.cons (by decide)
  · exact h
theorem LX.optS {w:Str}{d:Int}{t:Str}{ks:List Kt} (hw:b9 w=true) (hd:tmB d=true) (ho:Off (isR true) t) (h:LX t ks):LX (Go.Proofs.YtgkmbhllcekagaaGreatDoor.AM.optS w d ++ t) (xE w d ++ ks):=by
  unfold Go.Proofs.YtgkmbhllcekagaaGreatDoor.AM.optS xE
  by_cases h0:0 < d
  · rw [if_pos h0,if_pos h0]
    rw [List.cons_append,List.append_assoc]
    exact LX.sp (by decide) (LX.name hw (Off.cons (by decide)) (LX.sp (by decide) (LX.printD hd ho h)))
  · rw [if_neg h0,if_neg h0]; exact h
theorem Qe (l:List aJ) (t:Str) (h:Off (isR true) t):Off (isR true) (labS l ++ t):=by
  unfold labS; split
  · exact h
  · rcases l with _ | ⟨p,l⟩
    · contradiction
    · exact Off.cons (by decide)
theorem LX.pair {p:aJ}{t:Str}{ks:List Kt} (hp:b9 p.1=true) (h:LX t ks):LX (p.1 ++ (61 :: (cN p.2 ++ t))) ((1,p.1) :: (4,[61]) :: (3,p.2) :: ks) :=
  LX.name hp (Off.cons (by decide)) (LX.sign3 (c:=61) (d:=34) (by decide) (by decide) (by decide) (LX.text h))
theorem LX.labM:∀ (ps:List aJ) {t:Str}{ks:List Kt},(∀ p ∈ ps,b9 p.1=true)→LX t ks→LX (Go.Proofs.YtgkmbhllcekagaaGreatDoor.AM.labM [44] ps ++ t) (sP [(4,[44])] ps ++ ks)
  | [],t,ks,_,h=>h
  | p :: ps,t,ks,hp,h=>by
    have ih:=LX.labM ps (fun q hq=>hp q (by simp [hq])) h
    have:=LX.pair (hp p (by simp)) ih
    unfold Go.Proofs.YtgkmbhllcekagaaGreatDoor.AM.labM sP
    simp only [List.cons_append,List.nil_append,List.append_assoc]
    exact LX.sign1 (by decide) (by decide) this
theorem LX.labS {l:List aJ}{t:Str}{ks:List Kt} (hl:gE l=true) (h:LX t ks):LX (Go.Proofs.YtgkmbhllcekagaaGreatDoor.AM.labS l ++ t) (B6 l ++ ks):=by
  unfold Go.Proofs.YtgkmbhllcekagaaGreatDoor.AM.labS B6
  have hp:=(s6.1 hl).2.1
  rcases l with _ | ⟨p,ps⟩
  · exact h
  · rw [if_neg (by simp),if_neg (by simp)]
    have ih:=LX.labM ps (fun q hq=>hp q (by simp [hq])) (LX.sign1 (c:=125) (by decide) (by decide) h)
    have:=LX.pair (hp p (by simp)) ih
    unfold Go.Proofs.YtgkmbhllcekagaaGreatDoor.AM.labM sP
    simp only [List.cons_append,List.nil_append,List.append_assoc] at this ⊢
    refine LX.sp (by decide) (LX.word (c:=108) (w:=[97,98,101,108,115]) (by decide) (by decide) (Off.cons (by decide)) ?_)
    exact LX.sp (by decide) (LX.sign1 (by decide) (by decide) this)
theorem LX.ruleS {r:aZ}{t:Str}{ks:List Kt} (hr:dB r=true) (h:LX t ks):LX (Go.Proofs.YtgkmbhllcekagaaGreatDoor.AM.ruleS r ++ t) (uB r ++ ks):=by
  unfold Go.Proofs.YtgkmbhllcekagaaGreatDoor.AM.ruleS uB lI
  simp only [dB,Bool.and_eq_true] at hr
  obtain ⟨⟨⟨⟨⟨h1,h2⟩,h3⟩,h4⟩,h5⟩,_⟩:=hr
  have hs:LX (59 :: t) ((4,[59]) :: ks):=LX.sign1 (by decide) (by decide) h
  have o1:Off (isR true) (59 :: t):=Off.cons (by decide)
  have e1:=LX.labS h5 hs
  have o2:=Qe r.Labels _ o1
  have e2:=LX.optS (w:=gT) (by decide) h4 o2 e1
  have o3:=LG gT r.Keep _ o2
  have e3:=LX.optS (w:=iJ) (by decide) h3 o3 e2
  have o4:=LG iJ r.For _ o3
  have e4:=LX.condS h2 o4 e3
  simp only [List.cons_append,List.nil_append,List.append_assoc]
  refine LX.name (s:=m5) (by decide) (Off.cons (by decide)) (LX.sp (by decide) ?_)
  refine LX.name h1 (Off.cons (by decide)) (LX.sign1 (by decide) (by decide) (LX.sp (by decide) ?_))
  exact e4
end Go.Proofs.YtgkmbhllcekagaaGreatDoor.AM
/- What is printed is parsed, over kinds and texts. -/
namespace Go.Proofs.YtgkmbhllcekagaaGreatDoor.AM
open Go
theorem Nj (x s:Str) (t:List Kt):isT 4 x ((1,s) :: t)=false:=nB t (.inr (by decide))
theorem NB (t:List Kt):isT 4 [125] ((4,[44]) :: t)=false:=nB t (.inl (by decide))
theorem AQ {s:Str} (h:b9 s=true) (t:List Kt):iP ((1,s) :: t)=.ok s t:=by
  unfold iP; simp [h]
theorem C3 {m:a8} (hm:mOk m=true) {n:Nat} (hn:n < 8) (t:List Kt):nP n (vD m ++ t)=.ok m t:=by
  simp only [mOk,Bool.and_eq_true,decide_eq_true_eq] at hm
  unfold nP vD
  simp only [List.cons_append,List.nil_append]
  rw [AQ hm.1]
  simp only
  obtain ⟨a,b,c⟩:=m
  simp only at hm ⊢
  cases c
  · simp only [Bool.false_eq_true,if_false]
    rw [nB _ (.inl (by decide)),gX]
    simp only [Bool.false_eq_true,if_false,if_true,List.tail_cons]
    unfold tR
    simp only
    rw [if_pos trivial,if_neg (by omega)]
  · simp only [if_true]
    simp only [gX,if_true,List.tail_cons]
    unfold tR
    simp only
    rw [if_pos trivial,if_neg (by omega)]
theorem G4 (nm:Str):∀ (ms:List a8) (m:a8) (f:Nat) (acc:List a8) (t:List Kt),acc.length + f=8→ms.length + 1≤f→mOk m=true→ms.all mOk=true →
    lS nm f acc (vD m ++ (wL 44 ms ++ (4,[125]) :: t))=.ok ⟨nm,acc ++ m :: ms⟩ t
  | [],m,0,acc,t,_,h,_,_=>by simp at h
  | [],m,f + 1,acc,t,hl,h,hm,hms=>by
    unfold lS
    rw [C3 hm (by omega)]
    simp only [wL,List.nil_append]
    simp only [gX,if_true,List.tail_cons]
  | m2 :: ms,m,0,acc,t,_,h,_,_=>by simp at h
  | m2 :: ms,m,f + 1,acc,t,hl,h,hm,hms=>by
    unfold lS
    rw [C3 hm (by omega)]
    simp only [wL,List.cons_append]
    simp only [NB,gX,Bool.false_eq_true,if_false,if_true,List.tail_cons,List.append_assoc]
    rw [List.all_cons,Bool.and_eq_true] at hms
    simp only [List.length_cons] at h
    rw [G4 nm ms m2 f (acc ++ [m]) t (by simp; omega) (by omega) hms.1 hms.2]
    simp
theorem Dn (m:a8) (t:List Kt):vD m ++ t=(1,m.Name) :: (4,if m.Not then [33,61] else [61]) :: (3,m.Value) :: t:=rfl
theorem N4 {s:bM} (hs:jE s=true) (t:List Kt) (ht:isT 4 [123] t=false):yC (GD s ++ t)=.ok s t:=by
  simp only [jE,Bool.and_eq_true,decide_eq_true_eq] at hs
  obtain ⟨⟨h1,h2⟩,h3⟩:=hs
  obtain ⟨nm,M⟩:=s
  simp only at h1 h2 h3
  unfold yC GD
  simp only [List.cons_append]
  rw [AQ h1]
  rcases M with _ | ⟨m,ms⟩
  · simp only [if_true,List.nil_append,ht]; try rfl
  · rw [if_neg (by simp)]
    simp only [wL,List.cons_append,List.append_assoc,List.nil_append]
    simp only [gX,if_true,List.tail_cons]
    rw [List.all_cons,Bool.and_eq_true] at h3
    simp only [Dn,Nj,Bool.false_eq_true,if_false]
    rw [← Dn,G4 nm ms m 8 [] t rfl (by simpa using h2) h3.1 h3.2]
    rfl
theorem Pq {k:Int} (hk:1≤k∧k≤6):opB (signS k)=k:=by
  have:k=1 ∨ k=2 ∨ k=3 ∨ k=4 ∨ k=5 ∨ k=6:=by omega
  rcases this with rfl | rfl | rfl | rfl | rfl | rfl <;> decide
theorem O5 {k:Int} (hk:1≤k∧k≤6) (s:UInt8) (h:s=123 ∨ s=40 ∨ s=41:=by simp):signS k ≠ [s]:=by
  have:k=1 ∨ k=2 ∨ k=3 ∨ k=4 ∨ k=5 ∨ k=6:=by omega
  rcases h with rfl | rfl | rfl <;> rcases this with rfl | rfl | rfl | rfl | rfl | rfl <;> decide
theorem KJ {x:bF} (hx:gP x=true) (t:List Kt):oX (wS x ++ t)=.ok x t:=by
  simp only [gP,Bool.and_eq_true,decide_eq_true_eq] at hx
  obtain ⟨⟨h1,h2⟩,h3⟩:=hx
  unfold oX wS
  simp only [List.cons_append,List.append_assoc,List.nil_append]
  rw [N4 h1 _ (nB _ (.inl (O5 h2 123)))]
  simp only [opP,if_true,Pq h2]
  rw [if_neg (by omega)]
  simp only [List.tail_cons,vP,OH h3,if_true]
theorem Ok (s:bM):∃ t,GD s=(1,s.Name) :: t:=⟨_,rfl⟩
theorem LR {x:bF} (hx:gP x=true) (t:List Kt):sQ (wS x ++ t)=.ok x t:=by
  have hp:=KJ hx t
  unfold sQ fI
  have:isT 4 [40] (wS x ++ t)=false:=by
    obtain ⟨u,e⟩:=Ok x.S
    unfold wS
    rw [e]
    exact nB _ (.inr (by decide))
  rw [this]
  simpa using hp
theorem Hf (w:Str) {d:Int} (hd:tmB d=true) (t:List Kt) (ht:isT 1 w t=false):q9 w (xE w d ++ t)=.ok d t:=by
  have h0:=oD.1 hd
  unfold q9 xE
  by_cases hp:0 < d
  · rw [if_pos hp]
    simp only [List.cons_append,List.nil_append]
    simp only [gX,if_true,List.tail_cons,jC,OA hd]
  · rw [if_neg hp,List.nil_append,ht]
    simp only [Bool.false_eq_true,if_false]
    rw [show d=0 by omega]
theorem Et (p:aJ) (t:List Kt):j8 ((1,p.1) :: (4,[61]) :: (3,p.2) :: t)=.ok p t:=by
  unfold j8
  simp only [if_true,gX,List.tail_cons]
theorem C4:∀ (ps:List aJ) (p:aJ) (acc:List aJ) (t:List Kt),nN acc ((1,p.1) :: (4,[61]) :: (3,p.2) :: (sP [(4,[44])] ps ++ (4,[125]) :: t))=.ok (acc ++ p :: ps) ((4,[125]) :: t)
  | [],p,acc,t=>by
    rw [wJ,Et]
    simp only [sP,List.nil_append,gX,if_true]
  | q :: ps,p,acc,t=>by
    rw [wJ,Et]
    simp only [sP,List.cons_append,List.nil_append]
    simp only [NB,gX,Bool.false_eq_true,if_false,if_true,List.tail_cons]
    rw [C4 ps q (acc ++ [p]) t]
    simp
theorem MT {l:List aJ} (h:gE l=true):eU l=(l,0):=by
  obtain ⟨hg,ha⟩:=Dm h
  rw [AJ hg,Jg hg ha]
theorem Ig {l:List aJ} (hl:ED l) (t:List Kt) (ht:isT 1 hY t=false):jP (B6 l ++ t)=.ok l t:=by
  obtain ⟨h1,h2⟩:=hl
  rcases l with _ | ⟨p,ps⟩
  · unfold jP B6
    rw [if_pos rfl,List.nil_append,ht]; rfl
  · have e:B6 (p :: ps)=sP [(1,hY),(4,[123])] (p :: ps) ++ [(4,[125])]:=if_neg (by simp)
    rw [e]
    unfold jP
    simp only [sP,List.cons_append,List.nil_append,List.append_assoc]
    simp only [gX,if_true,List.tail_cons]
    unfold kD
    simp only [gX,if_true,List.tail_cons]
    simp only [Nj,Bool.false_eq_true,if_false]
    rw [C4 ps p [] t]
    simp only [List.nil_append]
    unfold w7
    rw [MT h1]
    simp only [if_true,h2,Bool.false_eq_true,if_false,List.tail_cons]
theorem OY {w w2:Str} (hw:w2 ≠ w) (d:Int) {t:List Kt} (ht:isT 1 w t=false):isT 1 w (xE w2 d ++ t)=false:=by
  unfold xE; split
  · exact nB _ (.inl hw)
  · exact ht
theorem IJ {w:Str} (hw:hY ≠ w) (l:List aJ) {t:List Kt} (ht:isT 1 w t=false):isT 1 w (B6 l ++ t)=false:=by
  rcases l with _ | ⟨p,ps⟩
  · exact ht
  · exact nB _ (.inl hw)
theorem MN {r:aZ} (hr:dB r=true) (t:List Kt) (h1:isT 1 iJ t=false) (h2:isT 1 gT t=false) (h3:isT 1 hY t=false) :
    sU r.Name r.E (xE iJ r.For ++ (xE gT r.Keep ++ (B6 r.Labels ++ t)))=if isT 4 [59] t then .ok r t.tail else wr t:=by
  simp only [dB,Bool.and_eq_true,Bool.not_eq_true'] at hr
  obtain ⟨⟨⟨⟨⟨_,_⟩,k3⟩,k4⟩,k5⟩,k6⟩:=hr
  unfold sU
  rw [Hf iJ k3 _ (OY (by decide) _ (IJ (by decide) _ h1))]
  simp only
  rw [Hf gT k4 _ (IJ (by decide) _ h2)]
  simp only
  rw [Ig ⟨k5,k6⟩ _ h3]
theorem EE {r:aZ} (hr:dB r=true) (t:List Kt) (h1:isT 1 iJ t=false) (h2:isT 1 gT t=false) (h3:isT 1 hY t=false) :
    mE (lI r ++ t)=if isT 4 [59] t then .ok r t.tail else wr t:=by
  have h:=hr
  simp only [dB,Bool.and_eq_true] at h
  obtain ⟨⟨⟨⟨⟨k1,k2⟩,_⟩,_⟩,_⟩,_⟩:=h
  unfold mE lI
  simp only [List.cons_append,List.append_assoc]
  simp only [gX,if_true,List.tail_cons]
  rw [AQ k1]
  simp only
  simp only [gX,if_true,List.tail_cons]
  rw [LR k2]
  exact MN hr t h1 h2 h3
theorem Az {r:aZ} (hr:dB r=true) (t:List Kt):mE (uB r ++ t)=.ok r t:=by
  unfold uB
  rw [List.append_assoc,List.cons_append,List.nil_append,EE hr _ (nB _ (.inr (by decide))) (nB _ (.inr (by decide))) (nB _ (.inr (by decide))),gX]
  rfl
theorem Kz {r:aZ} (hr:dB r=true):mE (lI r)=.er [] 3:=by
  have:=EE hr [] rfl rfl rfl
  rw [List.append_nil] at this
  rw [this]; rfl
end Go.Proofs.YtgkmbhllcekagaaGreatDoor.AM
/- Selectors, parsed: the program's and the document's are the grammar's. -/
namespace Go.Proofs.YtgkmbhllcekagaaGreatDoor.AM
open Go
theorem bD {α β:Type} (ks:List Nat) (w:List Obj) (enc:α→AV) (ob:α→List Obj) (a:α) (m:α→Option β):bX ks w enc ob (some a) m=m a:=rfl
theorem lD {β:Type} (h e:List Nat) (r:List (Bool × Nat)) (m:Option β):fF h e r m=m:=rfl
theorem LA {β:Type} (a b c d:Nat) (m:Option β):tokB a b c d m=m:=rfl
theorem OZ {β:Type} (a:Nat) (m:Option β):Ma a m=m:=rfl
def tks (l:List aK) (i:Nat):List Kt:=(l.drop i).map kv
def nW (l:List aK) (t:List Kt):Int:=(l.length:Int) - t.length
theorem j5 {l:List aK}{i:Nat} (h:i < l.length):tks l i=kv (nth l i) :: tks l (i + 1):=by
  unfold tks; rw [eF h]; rfl
theorem fJ {l:List aK}{i:Nat} (h:l.length≤i):tks l i=[]:=by
  unfold tks; rw [List.drop_eq_nil_of_le h]; rfl
theorem yQ (l:List aK) (i:Nat):(tks l i).length=l.length - i:=by simp [tks]
theorem cF (l:List aK) (i:Nat):(tks l i).tail=tks l (i + 1):=by
  rcases Nat.lt_or_ge i l.length with h | h
  · rw [j5 h]; rfl
  · rw [fJ h,fJ (by omega)]; rfl
theorem cM {l:List aK}{i:Nat} (h:i≤l.length):nW l (tks l i)=i:=by
  unfold nW; rw [yQ]; omega
theorem Lh {l:List aK}{i:Nat} (hi:i≤l.length) {p u:List Kt} (h:tks l i=p ++ u):∃ j,i + p.length=j∧j≤l.length∧u=tks l j:=by
  have h1:=congrArg List.length h
  rw [yQ,List.length_append] at h1
  refine ⟨_,rfl,by omega,?_⟩
  have h2:=congrArg (List.drop p.length) h
  rw [List.drop_left] at h2
  rw [← h2]
  unfold tks
  rw [List.map_drop,List.map_drop,List.drop_drop]
theorem bH.toks {α:Type}{l:List aK}{i m:Nat}{r:Pr α}{Q:α→Prop} (h:bH (tks l i) r Q m) (hi:i≤l.length) :
    (∃ e j,r=.er (tks l j) e∧i≤j∧j≤l.length∧e ≠ 0∧(e=3 ↔ j=l.length)) ∨ (∃ a j,r=.ok a (tks l j)∧i + m≤j∧j≤l.length∧Q a):=by
  rcases h.split with ⟨u,e,p,hr,hp,h3,h0⟩ | ⟨a,u,p,hr,hp,hm,hq⟩
  · obtain ⟨j,h1,h2,rfl⟩:=Lh hi hp
    refine .inl ⟨e,j,hr,by omega,h2,h0,?_⟩
    rw [h3,← List.length_eq_zero_iff,yQ]; omega
  · obtain ⟨j,h1,h2,rfl⟩:=Lh hi hp
    exact .inr ⟨a,j,hr,by omega,h2,hq⟩
def Pr.val {α:Type} (z:α):Pr α→α
  | .er _ _=>z
  | .ok a _=>a
def Pr.err {α:Type}:Pr α→Int
  | .er _ e=>e
  | .ok _ _=>0
def Pr.rem {α:Type}:Pr α→List Kt
  | .er u _=>u
  | .ok _ u=>u
def vT {α:Type} (l:List aK) (z:α) (r:Pr α):α × Int × Int:=(r.val z,nW l r.rem,r.err)
def vSr {α:Type} (l:List aK) (z:α) (r:Pr α):α × Int × bW:=(r.val z,r.err,⟨l,nW l r.rem⟩)
theorem dS {α:Type}{l:List aK}{z:α}{j:Nat}{e:Int} (h:j≤l.length):vT l z (.er (tks l j) e)=(z,(j:Int),e):=by
  simp only [vT,Pr.val,Pr.rem,Pr.err,cM h]
theorem eV {α:Type}{l:List aK}{z a:α}{j:Nat} (h:j≤l.length):vT l z (.ok a (tks l j))=(a,(j:Int),0):=by
  simp only [vT,Pr.val,Pr.rem,Pr.err,cM h]
theorem rD {α:Type}{l:List aK}{z:α}{j:Nat}{e:Int} (h:j≤l.length):vSr l z (.er (tks l j) e)=(z,e,⟨l,(j:Int)⟩):=by
  simp only [vSr,Pr.val,Pr.rem,Pr.err,cM h]
theorem s9 {α:Type}{l:List aK}{z a:α}{j:Nat} (h:j≤l.length):vSr l z (.ok a (tks l j))=(a,0,⟨l,(j:Int)⟩):=by
  simp only [vSr,Pr.val,Pr.rem,Pr.err,cM h]
theorem mF {α:Type}{l:List aK}{z:α}{j:Nat} (h:j≤l.length):vT l z (wr (tks l j))=(z,(j:Int),wrE (tks l j)):=dS h
theorem Eb {α:Type}{l:List aK}{z:α}{j:Nat} (h:j≤l.length):vSr l z (wr (tks l j))=(z,wrE (tks l j),⟨l,(j:Int)⟩):=rD h
def isK (k:Int):List Kt→Bool
  | []=>false
  | x :: _=>decide (x.1=k)
def SmT (l:List aK):Prop:=l.length≤1000000∧∀ x ∈ l,x.S.length≤1000000
theorem Cw {l:List aK}{i:Nat} (h:i < l.length) (k:Int) (s:Str):isT k s (tks l i)=(decide ((nth l i).K=k) && decide ((nth l i).S=s)):=by
  rw [j5 h]; rfl
theorem qK {l:List aK}{i:Nat} (h:i < l.length) (k:Int):isK k (tks l i)=decide ((nth l i).K=k):=by
  rw [j5 h]; rfl
theorem cV {l:List aK}{i:Nat}{k:Int}{s:Str} (h:isT k s (tks l i)=true):i < l.length:=by
  rcases Nat.lt_or_ge i l.length with h1 | h1
  · exact h1
  · rw [fJ h1] at h; cases h
theorem f9 {l:List aK}{i:Nat}{k:Int} (h:isK k (tks l i)=true):i < l.length:=by
  rcases Nat.lt_or_ge i l.length with h1 | h1
  · exact h1
  · rw [fJ h1] at h; cases h
theorem dP (t:List Kt):wrE t ≠ 0:=by cases t <;> simp [wrE]
theorem yW {t:List Kt} (h:isK 1 t=false):iP t=wr t:=by
  rcases t with _ | ⟨x,r⟩
  · rfl
  · simp only [isK,decide_eq_false_iff_not] at h
    simp only [iP,if_neg h]; try rfl
theorem u9 {l:List aK}{i:Nat} (h:isK 1 (tks l i)=true):iP (tks l i)=if b9 (nth l i).S then .ok (nth l i).S (tks l (i + 1)) else .er (tks l i) 7:=by
  have hl:=f9 h
  rw [j5 hl] at h ⊢
  simp only [isK,decide_eq_true_eq] at h
  simp only [iP,if_pos h]; try rfl
theorem NC {n:Nat}{nm:Str}{nt:Bool}{t:List Kt} (h:isK 3 t=false):tR n nm nt t=wr t:=by
  rcases t with _ | ⟨x,r⟩
  · rfl
  · simp only [isK,decide_eq_false_iff_not] at h
    simp only [tR,if_neg h]; try rfl
theorem K6 {n:Nat}{nm:Str}{nt:Bool}{l:List aK}{i:Nat} (h:isK 3 (tks l i)=true):tR n nm nt (tks l i)=if 64 < (nth l i).S.length ∨ 8≤n then .er (tks l i) 4 else .ok ⟨nm,(nth l i).S,nt⟩ (tks l (i + 1)):=by
  have hl:=f9 h
  rw [j5 hl] at h ⊢
  simp only [isK,decide_eq_true_eq] at h
  simp only [tR,if_pos h]; try rfl
/- The program's. -/
theorem Bw (l:List aK) (i:Nat) (k:Int):eO k ⟨l,(i:Int)⟩=some (isK k (tks l i)):=by
  unfold eO
  simp only [aQ,aM,bC]
  by_cases h:i < l.length
  · rw [if_pos (by omega),a7 (bQ h),qK h]
  · rw [if_neg (by omega),fJ (by omega)]; rfl
theorem qN (l:List aK) (i:Nat):dF ⟨l,(i:Int)⟩=some (wrE (tks l i)):=by
  unfold dF
  simp only [aQ,aM,bC]
  by_cases h:i < l.length
  · rw [if_neg (by omega),j5 h]; rfl
  · rw [if_pos (by omega),fJ (by omega)]; rfl
theorem mU (l:List aK) (i:Nat) (s:Str) (hl:l.length≤1000000):dK s ⟨l,(i:Int)⟩=some (isT 4 s (tks l i),⟨l,if isT 4 s (tks l i) then ((i + 1:Nat):Int) else (i:Int)⟩):=by
  unfold dK
  rw [eW,Bw,bD]
  simp only [aQ,bE,aM,bC]
  cases h:isK 4 (tks l i)
  · have:isT 4 s (tks l i)=false:=by
      rcases hl:tks l i with _ | ⟨x,r⟩
      · rfl
      · rw [hl] at h
        simp only [isK] at h
        simp only [isT,h,Bool.false_and]
    rw [this]; rfl
  · have hlt:=f9 h
    rw [qK hlt] at h
    rw [aV,a7 (bQ hlt),Cw hlt,h,Bool.true_and,aR (by omega)]
    by_cases h2:(nth l i).S=s
    · simp [h2]
    · simp [h2]
theorem C6 (l:List aK) (i:Nat) (hi:i≤l.length) (hl:l.length≤1000000):iA ⟨l,(i:Int)⟩=some (vSr l [] (iP (tks l i))):=by
  unfold iA
  rw [Bw,bD]
  simp only [aQ,bE,bC]
  cases h:isK 1 (tks l i)
  · rw [bB,qN,bD,yW h,Eb hi]
  · have hlt:=f9 h
    rw [aV,a7 (bQ hlt),kG,aC,u9 h]
    cases b9 (nth l i).S
    · simp only [bB,Bool.false_eq_true,if_false,rD hi]
    · simp only [aV,if_true]
      rw [s9 (by omega),aR (by omega)]; rfl
theorem Js (l:List aK) (i n:Nat) (hi:i≤l.length) (hl:l.length≤1000000) (hn:n≤1000000):iZ (n:Int) ⟨l,(i:Int)⟩=some (vSr l ⟨[],[],false⟩ (nP n (tks l i))):=by
  unfold iZ
  rw [C6 l i hi hl,bD]
  unfold nP
  have tail:∀ (j:Nat) (nm:Str) (nt:Bool),j≤l.length→(bX [0] [.box [sl aF l,vI (j:Int)],.box [vS ([]:Str),vS ([]:Str),vB false]] (fun x8=>vB x8) (fun x8=>[.box [sl aF l,vI (j:Int)],.box [vS ([]:Str),vS ([]:Str),vB false]]) (eO (3:Int) ⟨l,(j:Int)⟩) fun x8=>
      aG x8 (bG l (j:Int) fun x11=>aG (bif decide ((64:Int) < (x11.S.length:Int)) then true else decide ((8:Int)≤(n:Int))) (some ((⟨([]:Str),([]:Str),false⟩:a8),(4:Int),(⟨l,(j:Int)⟩:bW))) (some ((⟨nm,x11.S,nt⟩:a8),(0:Int),(⟨l,wI ((j:Int) + 1)⟩:bW))))
       (bX [0] [.box [sl aF l,vI (j:Int)],.box [vS ([]:Str),vS ([]:Str),vB false]] (fun x10=>vI x10) (fun x10=>[.box [sl aF l,vI (j:Int)],.box [vS ([]:Str),vS ([]:Str),vB false]]) (dF ⟨l,(j:Int)⟩) fun x10=>some ((⟨([]:Str),([]:Str),false⟩:a8),x10,(⟨l,(j:Int)⟩:bW)))) =
      some (vSr l ⟨[],[],false⟩ (tR n nm nt (tks l j))):=by
    intro j nm nt hj
    rw [Bw,bD]
    cases h:isK 3 (tks l j)
    · rw [bB,qN,bD,NC h,Eb hj]
    · have hlt:=f9 h
      rw [aV,a7 (bQ hlt),K6 h]
      rw [fK,← Bool.decide_or,aM]
      by_cases h2:64 < (nth l j).S.length ∨ 8≤n
      · rw [if_pos (by omega),if_pos h2,rD hj]
      · rw [if_neg (by omega),if_neg h2,s9 (by omega),aR (by omega)]; rfl
  rcases (rW (tks l i)).toks hi with ⟨e,j,hr,h1,h2,h0,_⟩ | ⟨nm,j,hr,h1,h2,hq⟩ <;> rw [hr]
  · rw [rD h2]
    simp only [aQ,bE,aM,if_neg h0,bC]
    rw [rD h2]
  · rw [s9 h2]
    simp only [aQ,bE,aM,if_true,bC]
    rw [mU l j _ hl,bD]
    cases hs:isT 4 [33,61] (tks l j)
    · simp only [bB,Bool.false_eq_true,if_false]
      rw [mU l j _ hl,bD]
      cases hs2:isT 4 [61] (tks l j)
      · simp only [bB,Bool.false_eq_true,if_false]
        rw [qN,bD,Eb h2]
      · have:=cV hs2
        simp only [aV,if_true,cF]
        exact tail (j + 1) nm false (by omega)
    · have:=cV hs
      simp only [aV,if_true,cF]
      exact tail (j + 1) nm true (by omega)
theorem MR (l:List aK) (i:Nat) (hi:i≤l.length) (hl:l.length≤1000000):jW ⟨l,(i:Int)⟩=some (vSr l ⟨[],[]⟩ (yC (tks l i))):=by
  unfold jW
  rw [C6 l i hi hl,bD]
  unfold yC
  rcases (rW (tks l i)).toks hi with ⟨e,j,hr,h1,h2,h0,_⟩ | ⟨nm,j,hr,h1,h2,hq⟩ <;> rw [hr]
  · rw [rD h2]
    simp only [aQ,bE,aM,if_neg h0,bC]
    rw [rD h2]
  · rw [s9 h2]
    simp only [aQ,gI,bE,aM,if_true,bC,LA]
    rw [mU l j _ hl,bD]
    cases hs:isT 4 [123] (tks l j)
    · simp only [bB,Bool.false_eq_true,if_false]
      rw [s9 h2]
    · have hj:=cV hs
      simp only [aV,if_true,cF]
      rw [mU l (j + 1) _ hl,bD]
      cases hs2:isT 4 [125] (tks l (j + 1))
      · simp only [bB,Bool.false_eq_true,if_false]
        refine (cW (fun x:List aK × Int × List a8=>x.1=l∧(0≤x.2.1∧x.2.1≤l.length)∧x.2.2.length≤8) (fun x=>9 - x.2.2.length) (fun x=>vSr l ⟨[],[]⟩ (lS nm (8 - x.2.2.length) x.2.2 (tks l x.2.1.toNat))) ?_ (by refine ⟨rfl,?_,?_⟩ <;> simp only [List.length_nil] <;> omega)).trans (by simp)
        rintro ⟨l',k,acc⟩ ⟨rfl,hk,ha⟩
        simp only at hk ha ⊢
        obtain ⟨k,rfl⟩:=Int.eq_ofNat_of_zero_le hk.1
        simp only [Int.toNat_natCast]
        rw [Js l' k acc.length (by omega) hl (by omega),bD]
        rcases (sV acc.length (tks l' k)).toks (by omega) with ⟨e,m,hr,h1,h2,h0,_⟩ | ⟨x,m,hr,h1,h2,hq⟩
        · left
          have hL:lS nm (8 - acc.length) acc (tks l' k)=.er (tks l' m) e:=by
            rcases h8:8 - acc.length with _ | f <;> (unfold lS; rw [hr])
          rw [hr,hL,rD h2,rD h2,if_neg h0]
          rfl
        · rw [hr,s9 h2]
          have h8:8 - acc.length=(7 - acc.length) + 1:=by have:=hq.2; omega
          have hL:lS nm (8 - acc.length) acc (tks l' k)=if isT 4 [125] (tks l' m) then .ok ⟨nm,acc ++ [x]⟩ (tks l' m).tail else if isT 4 [44] (tks l' m) then lS nm (7 - acc.length) (acc ++ [x]) (tks l' m).tail else wr (tks l' m):=by
            rw [h8]
            conv=>lhs; unfold lS
            rw [hr]
          rw [hL]
          simp only [if_true]
          rw [aN (by simp only [List.length_cons,List.length_nil]; omega),mU l' m _ hl,bD]
          cases hs3:isT 4 [125] (tks l' m)
          · simp only [bB,Bool.false_eq_true,if_false]
            rw [mU l' m _ hl,bD]
            cases hs4:isT 4 [44] (tks l' m)
            · left
              simp only [bB,Bool.false_eq_true,if_false]
              rw [qN,bD,Eb h2]; rfl
            · right
              have:=cV hs4
              simp only [aV,if_true,cF]
              refine ⟨_,rfl,⟨rfl,⟨?_,?_⟩,?_⟩,?_,?_⟩
              · simp only; omega
              · simp only; omega
              · simp only [List.length_append,List.length_singleton]; omega
              · simp only [List.length_append,List.length_singleton]; omega
              · simp only [List.length_append,List.length_singleton,Int.toNat_natCast]
                rw [show 8 - (acc.length + 1)=7 - acc.length by omega]
          · left
            have:=cV hs3
            simp only [aV,if_true,cF]
            rw [s9 (by omega)]; rfl
      · have:=cV hs2
        simp only [aV,if_true]
        rw [s9 (by omega)]
theorem JX (l:List aK) (i:Nat) (hi:i≤l.length) (hl:l.length≤1000000):tH l (i:Int)=some (vT l ⟨[],[]⟩ (yC (tks l i))):=by
  unfold tH
  simp only [aQ,aM]
  rw [if_neg (by omega),show min (i:Int) (l.length:Int)=(i:Int) by omega,MR l i hi hl,bD]
  rfl
end Go.Proofs.YtgkmbhllcekagaaGreatDoor.AM
/- Selectors, parsed by the document's answer. -/
namespace Go.Proofs.YtgkmbhllcekagaaGreatDoor.AM
open Go
theorem gL (l:List aK) (i:Nat) (k:Int) {s:Str} (hs:s ≠ []):bZ l (i:Int) k s=some (if isT k s (tks l i) then 0 else wrE (tks l i)):=by
  unfold bZ
  simp only [aQ,fK,aM,bE,bC,← Bool.decide_or]
  by_cases h:i < l.length
  · rw [if_neg (by omega),a7 (bQ h),Cw h,j5 h]
    by_cases h1:(nth l i).K=k
    · rw [if_pos h1,if_neg hs]
      by_cases h2:(nth l i).S=s
      · simp [h1,h2]
      · simp [h1,h2,wrE]
    · simp [h1,wrE]
  · rw [if_pos (by omega),fJ (by omega)]; rfl
theorem rH (l:List aK) (i:Nat) (k:Int):bZ l (i:Int) k []=some (if isK k (tks l i) then 0 else wrE (tks l i)):=by
  unfold bZ
  simp only [aQ,fK,aM,bE,bC,← Bool.decide_or]
  by_cases h:i < l.length
  · rw [if_neg (by omega),a7 (bQ h),qK h,j5 h]
    by_cases h1:(nth l i).K=k
    · simp [h1]
    · simp [h1,wrE]
  · rw [if_pos (by omega),fJ (by omega)]; rfl
theorem DP (l:List aK) (i:Nat):b5 l (i:Int)=some (nW l (tks l i)):=by
  unfold b5
  simp only [aQ,aM,bC]
  rw [if_neg (by omega)]
  unfold nW; rw [yQ]; congr 1; omega
theorem eN {l:List aK}{i:Nat} (h:i≤l.length):b5 l (i:Int)=some (i:Int):=by rw [DP,cM h]
theorem Ur {p:Bool}{t:List Kt}:((if p=true then (0:Int) else wrE t)=0) ↔ p=true:=by
  cases p
  · simp [dP]
  · simp
theorem DE (l:List aK) (i:Nat) (hs:SmT l):lZ l (i:Int)=some (iP (tks l i)).err:=by
  unfold lZ
  rw [rH,aC]
  simp only [aQ,aM,bE,bC]
  cases h:isK 1 (tks l i)
  · rw [if_neg (by simp [dP]),yW h]; rfl
  · have hlt:=f9 h
    rw [if_pos (by simp),a7 (bQ hlt),kN _ (by have:=hs.2 _ (iI hlt); omega),aC,u9 h]
    cases b9 (nth l i).S
    · rfl
    · rfl
theorem D3 {l:List aK}{i:Nat} (h:(iP (tks l i)).err=0):i < l.length∧iP (tks l i)=.ok (nth l i).S (tks l (i + 1)):=by
  cases hk:isK 1 (tks l i)
  · rw [yW hk] at h; exact absurd h (dP _)
  · have:=f9 hk
    rw [u9 hk] at h ⊢
    cases hb:b9 (nth l i).S
    · rw [hb] at h; cases h
    · exact ⟨this,rfl⟩
theorem DN {l:List aK}{i:Nat} (h:(iP (tks l i)).err ≠ 0):iP (tks l i)=.er (tks l i) (iP (tks l i)).err:=by
  cases hk:isK 1 (tks l i)
  · rw [yW hk]; rfl
  · rw [u9 hk] at h ⊢
    cases hb:b9 (nth l i).S
    · rfl
    · rw [hb] at h; exact absurd rfl h
theorem Nb (l:List aK) (i n:Nat) (hs:SmT l) (hi:i≤l.length):o7 l (i:Int) (n:Int)=some (vT l ⟨[],[],false⟩ (nP n (tks l i))):=by
  have hl:=hs.1
  unfold o7
  rw [DE l i hs,aC]
  unfold nP
  simp only [aQ,aM,bE,bC,lD]
  by_cases h0:(iP (tks l i)).err=0
  · obtain ⟨hlt,e⟩:=D3 h0
    rw [if_pos h0,e]
    rw [aR (show -9223372036854775808≤(i:Int) + 1∧_ by omega),aR (show -9223372036854775808≤(i:Int) + 2∧_ by omega),aR (show -9223372036854775808≤(i:Int) + 3∧_ by omega),show (i:Int) + 1=((i + 1:Nat):Int) by omega,show (i:Int) + 2=((i + 2:Nat):Int) by omega,show (i:Int) + 3=((i + 3:Nat):Int) by omega]
    rw [gL l (i + 1) 4 (show ([33,61]:Str) ≠ [] by decide),aC]
    rw [gL l (i + 1) 4 (show ([61]:Str) ≠ [] by decide)]
    rw [rH,eN (show i + 1≤l.length by omega)]
    dsimp only
    have fin:∀ nt:Bool,i + 2≤l.length→(aI vI (fun x15=>[.box [vS ([]:Str),vS ([]:Str),vB false],.box [vS ([]:Str),vS ([]:Str),vB false]]) (some (if isK 3 (tks l (i + 2))=true then 0 else wrE (tks l (i + 2)))) fun x15=>
        if x15=0 then bG l ((i + 2:Nat):Int) fun x18=>aG (bif decide ((64:Int) < (x18.S.length:Int)) then true else decide ((8:Int)≤(n:Int)))
            (if (4:Int)=0 then bG l (i:Int) fun x26=>bG l ((i + 2:Nat):Int) fun x28=>some ((⟨x26.S,x28.S,nt⟩:a8),((i + 3:Nat):Int),(0:Int))
             else aI vI (fun x25=>[.box [vS ([]:Str),vS ([]:Str),vB false],.box [vS ([]:Str),vS ([]:Str),vB false]]) (b5 l ((i + 2:Nat):Int)) fun x25=>some ((⟨([]:Str),([]:Str),false⟩:a8),x25,(4:Int)))
            (if x15=0 then bG l (i:Int) fun x26=>bG l ((i + 2:Nat):Int) fun x28=>some ((⟨x26.S,x28.S,nt⟩:a8),((i + 3:Nat):Int),(0:Int))
             else aI vI (fun x25=>[.box [vS ([]:Str),vS ([]:Str),vB false],.box [vS ([]:Str),vS ([]:Str),vB false]]) (b5 l ((i + 2:Nat):Int)) fun x25=>some ((⟨([]:Str),([]:Str),false⟩:a8),x25,x15))
        else (if x15=0 then bG l (i:Int) fun x26=>bG l ((i + 2:Nat):Int) fun x28=>some ((⟨x26.S,x28.S,nt⟩:a8),((i + 3:Nat):Int),(0:Int))
             else aI vI (fun x25=>[.box [vS ([]:Str),vS ([]:Str),vB false],.box [vS ([]:Str),vS ([]:Str),vB false]]) (b5 l ((i + 2:Nat):Int)) fun x25=>some ((⟨([]:Str),([]:Str),false⟩:a8),x25,x15)))=some (vT l ⟨[],[],false⟩ (tR n (nth l i).S nt (tks l (i + 2)))):=by
      intro nt hi2
      rw [aC]
      cases h:isK 3 (tks l (i + 2))
      · simp only [Bool.false_eq_true,if_false,if_neg (dP _)]
        rw [eN hi2,aC,NC h,mF hi2]
      · have h2:=f9 h
        simp only [if_true]
        rw [a7 (bQ h2),fK,← Bool.decide_or,aM,K6 h]
        by_cases h4:64 < (nth l (i + 2)).S.length ∨ 8≤n
        · rw [if_pos (by omega),if_neg (by decide),if_pos h4,eN hi2,aC,dS hi2]
        · rw [if_neg (by omega),if_neg h4,a7 (bQ hlt),a7 (bQ h2),eV (by omega)]
    cases hn:isT 4 [33,61] (tks l (i + 1))
    · simp only [Bool.false_eq_true,if_false,if_neg (dP _),decide_eq_false (dP (tks l (i + 1))),bB,Bool.not_false,aV]
      cases hn2:isT 4 [61] (tks l (i + 1))
      · refine Ln ?_
        simp only [aC,Bool.false_eq_true,if_false,if_neg (dP _)]
        rw [mF (by omega)]; rfl
      · have:=cV hn2
        refine lF (x:=()) (by simp only [aC,if_true]; rfl) ?_
        simp only [if_true]
        rw [cF]
        exact fin false (by omega)
    · have:=cV hn
      refine lF (x:=()) (by simp) ?_
      simp only [if_true,decide_true]
      rw [cF]
      exact fin true (by omega)
  · rw [if_neg h0]
    rw [eN hi,aC,DN h0,dS hi]; rfl
theorem PR (l:List aK) (i:Nat) (hs:SmT l):pF l (i:Int)=some (vT l ⟨[],[]⟩ (yC (tks l i))):=by
  have hl:=hs.1
  unfold pF
  rw [DE l i hs,aC]
  unfold yC
  simp only [aQ,gI,aM,bE,bC,lD,LA]
  by_cases h0:(iP (tks l i)).err=0
  · obtain ⟨hlt,e⟩:=D3 h0
    rw [if_pos h0,e]
    dsimp only
    rw [a7 (bQ hlt),aR (show -9223372036854775808≤(i:Int) + 1∧_ by omega),aR (show -9223372036854775808≤(i:Int) + 1 + 1∧_ by omega),show (i:Int) + 1 + 1=((i + 2:Nat):Int) by omega,show (i:Int) + 1=((i + 1:Nat):Int) by omega]
    rw [gL l (i + 1) 4 (by decide),aC]
    cases hn:isT 4 [123] (tks l (i + 1))
    · simp only [Bool.false_eq_true,if_false,if_neg (dP _)]
      rw [eV (by omega)]
    · have h1:=cV hn
      simp only [if_true,cF]
      rw [gL l (i + 2) 4 (by decide),aC]
      cases hn2:isT 4 [125] (tks l (i + 1 + 1))
      · simp only [Bool.false_eq_true,if_false,if_neg (dP _)]
        refine (cW (fun x:List a8 × Int=>(0≤x.2∧x.2≤l.length)∧x.1.length≤8) (fun x=>9 - x.1.length) (fun x=>vT l ⟨[],[]⟩ (lS (nth l i).S (8 - x.1.length) x.1 (tks l x.2.toNat))) ?_ (by refine ⟨⟨?_,?_⟩,?_⟩ <;> simp only [List.length_nil] <;> omega)).trans (by rfl)
        rintro ⟨acc,k⟩ ⟨hk,ha⟩
        simp only at hk ha ⊢
        obtain ⟨k,rfl⟩:=Int.eq_ofNat_of_zero_le hk.1
        simp only [Int.toNat_natCast]
        rw [Nb l k acc.length hs (by omega),aC]
        rcases (sV acc.length (tks l k)).toks (by omega) with ⟨e,m,hr,h1,h2,h0,_⟩ | ⟨x,m,hr,h1,h2,hq⟩
        · left
          have hL:lS (nth l i).S (8 - acc.length) acc (tks l k)=.er (tks l m) e:=by
            rcases h8:8 - acc.length with _ | f <;> (unfold lS; rw [hr])
          rw [hr,hL,dS h2,dS h2,if_neg h0]
          rfl
        · rw [hr,eV h2]
          have h8:8 - acc.length=(7 - acc.length) + 1:=by have:=hq.2; omega
          have hL:lS (nth l i).S (8 - acc.length) acc (tks l k)=if isT 4 [125] (tks l m) then .ok ⟨(nth l i).S,acc ++ [x]⟩ (tks l m).tail else if isT 4 [44] (tks l m) then lS (nth l i).S (7 - acc.length) (acc ++ [x]) (tks l m).tail else wr (tks l m):=by
            rw [h8]
            conv=>lhs; unfold lS
            rw [hr]
          rw [hL]
          simp only [if_true]
          rw [aN (by simp only [List.length_cons,List.length_nil]; omega),gL l m 4 (by decide),aC]
          cases hs3:isT 4 [125] (tks l m)
          · simp only [Bool.false_eq_true,if_false,if_neg (dP _)]
            rw [gL l m 4 (by decide),aC]
            cases hs4:isT 4 [44] (tks l m)
            · left
              simp only [Bool.false_eq_true,if_false,if_neg (dP _)]
              rw [eN h2,aC,mF h2]; rfl
            · right
              have:=cV hs4
              simp only [if_true,cF]
              rw [aR (by omega)]
              refine ⟨_,rfl,⟨⟨?_,?_⟩,?_⟩,?_,?_⟩
              · simp only; omega
              · simp only; omega
              · simp only [List.length_append,List.length_singleton]; omega
              · simp only [List.length_append,List.length_singleton]; omega
              · simp only [List.length_append,List.length_singleton]
                rw [show 8 - (acc.length + 1)=7 - acc.length by omega,show ((m:Int) + 1).toNat=m + 1 by omega]
          · left
            have:=cV hs3
            simp only [if_true,cF]
            rw [aR (by omega),eV (by omega)]; rfl
      · have:=cV hn2
        simp only [if_true]
        rw [aR (by omega),eV (by omega)]; rfl
  · rw [if_neg h0]
    rw [DP,aC,DN h0]; rfl
end Go.Proofs.YtgkmbhllcekagaaGreatDoor.AM
/- What is asked, parsed. -/
namespace Go.Proofs.YtgkmbhllcekagaaGreatDoor.AM
open Go
abbrev zE:bF:=⟨⟨[],[]⟩,0,0⟩
theorem AE (l:List aK) (i:Nat) (s:Str):qC l (i:Int) s=some (isT 4 s (tks l i)):=by
  unfold qC
  simp only [aQ,aM,bC]
  by_cases h:i < l.length
  · rw [if_pos (by omega),a7 (bQ h),Cw h]
    by_cases h1:(nth l i).K=4
    · simp [h1]
    · simp [h1]
  · rw [if_neg (by omega),fJ (by omega)]; rfl
theorem pN (l:List aK) (i:Nat):jK l (i:Int)=some (wrE (tks l i)):=by
  unfold jK
  simp only [aQ,aM,bC]
  by_cases h:i < l.length
  · rw [if_neg (by omega),j5 h]; rfl
  · rw [if_pos (by omega),fJ (by omega)]; rfl
theorem P1 (s:Str) (i:Nat) (g:Str) (hi:1≤i∧i≤6) (h:gl0[i]?=some g):opB s=i ↔ s=g:=by
  have:i=1 ∨ i=2 ∨ i=3 ∨ i=4 ∨ i=5 ∨ i=6:=by omega
  unfold opB
  rcases this with rfl | rfl | rfl | rfl | rfl | rfl <;> cases h <;>
    (by_cases h1:s=[62]
     · subst h1; decide
     by_cases h2:s=[62,61]
     · subst h2; decide
     by_cases h3:s=[60]
     · subst h3; decide
     by_cases h4:s=[60,61]
     · subst h4; decide
     by_cases h5:s=[61,61]
     · subst h5; decide
     by_cases h6:s=[33,61]
     · subst h6; decide
     simp [h1,h2,h3,h4,h5,h6])
theorem Ll (t:List Kt) (i:Nat) (g:Str) (hi:1≤i∧i≤6) (h:gl0[i]?=some g):isT 4 g t=true ↔ opP t=i:=by
  rcases t with _ | ⟨x,r⟩
  · simp only [isT,opP]; constructor
    · intro h; cases h
    · intro h; omega
  · simp only [isT,opP,Bool.and_eq_true,decide_eq_true_eq]
    by_cases h1:x.1=4
    · rw [if_pos h1,P1 _ i g hi h]; simp [h1]
    · rw [if_neg h1]; constructor
      · intro h2; exact absurd h2.1 h1
      · intro h2; omega
theorem Oe (i:Nat) (h:i < 7):∃ g,gl0[i]?=some g∧(1≤i→g ≠ []):=by
  have:i=0 ∨ i=1 ∨ i=2 ∨ i=3 ∨ i=4 ∨ i=5 ∨ i=6:=by omega
  rcases this with rfl | rfl | rfl | rfl | rfl | rfl | rfl
  · exact ⟨_,rfl,fun h=>absurd h (by decide)⟩
  all_goals exact ⟨_,rfl,fun _=>by decide⟩
theorem QJ (i:Int):nF i=some (decide (1≤i∧i≤6)):=by
  unfold nF
  simp only [aQ,bC,gM,← Bool.decide_and]
def p7 (n:Nat):Pr bF→Pr bF
  | .er u e=>.er u e
  | .ok x u=>u0 n x u
theorem Ep {f:Nat}{t:List Kt} (h:isT 4 [40] t=false):fI f t=oX t:=by
  cases f <;> (unfold fI; rw [h]; rfl)
theorem NI (k:Nat) (r:Pr bF):p7 (k + 1) r=p7 k (match r with
      | .er u e=>.er u e
      | .ok x u=>if isT 4 [41] u then .ok x u.tail else wr u):=by
  cases r with
  | er u e=>rfl
  | ok x u=>
    simp only [p7,u0]
    cases isT 4 [41] u <;> rfl
theorem N3 {s:bM}{k:Int}{t:List Kt} (h:isK 2 t=false):vP s k t=wr t:=by
  rcases t with _ | ⟨x,r⟩
  · rfl
  · simp only [isK,decide_eq_false_iff_not] at h
    simp only [vP,if_neg h]; try rfl
theorem Li {s:bM}{k:Int}{l:List aK}{i:Nat} (h:isK 2 (tks l i)=true):vP s k (tks l i)=if (m4 (nth l i).S).2=0 then .ok ⟨s,k,(m4 (nth l i).S).1⟩ (tks l (i + 1)) else .er (tks l i) (m4 (nth l i).S).2:=by
  have hl:=f9 h
  rw [j5 hl] at h ⊢
  simp only [isK,decide_eq_true_eq] at h
  simp only [vP,if_pos h]; try rfl
theorem NV {l:List aK}{i:Nat}{k:Int} (h:i < l.length):(nth l i).K=k ↔ isK k (tks l i)=true:=by
  rw [qK h,decide_eq_true_eq]
theorem MB {ph:Int × Int→List (Nat × AV)}{ob:Int × Int→List Obj}{o1:Bool→List Obj}{o2:Int→List Obj} (l:List aK) (hl:l.length≤1000000) (x:bF) (k:Nat) (hk:k≤32) (j:Nat) (hj:j≤l.length) :
    bK ph ob (fun (x29:Int × Int)=>if x29.2 < (k:Int) then aI vB o1 (qC l x29.1 ([41]:Str)) fun x31=>aG x31 (aU (wI (x29.1 + 1),wI (x29.2 + 1))) (aI vI o2 (jK l x29.1) fun x33=>aY (some (zE,x29.1,x33)))
      else aY (some (x,x29.1,(0:Int)))) ((j:Int),(0:Int))=some (vT l zE (u0 k x (tks l j))):=by
  refine (cW (fun s:Int × Int=>(0≤s.1∧s.1≤l.length)∧(0≤s.2∧s.2≤k)) (fun s=>k + 1 - s.2.toNat) (fun s=>vT l zE (u0 (k - s.2.toNat) x (tks l s.1.toNat))) ?_ (by refine ⟨⟨?_,?_⟩,?_,?_⟩ <;> simp only <;> omega)).trans (by simp)
  rintro ⟨i,c⟩ ⟨hi,hc⟩
  simp only at hi hc ⊢
  obtain ⟨i,rfl⟩:=Int.eq_ofNat_of_zero_le hi.1
  obtain ⟨c,rfl⟩:=Int.eq_ofNat_of_zero_le hc.1
  simp only [Int.toNat_natCast]
  by_cases h:c < k
  · rw [if_pos (by omega),AE,aC,show k - c=(k - (c + 1)) + 1 by omega]
    simp only [u0]
    cases hs:isT 4 [41] (tks l i)
    · left
      simp only [bB,Bool.false_eq_true,if_false]
      rw [pN,aC,mF (by omega)]; rfl
    · right
      have:=cV hs
      simp only [aV,if_true,cF]
      rw [aR (by omega),aR (by omega)]
      refine ⟨_,rfl,⟨⟨?_,?_⟩,?_,?_⟩,?_,?_⟩
      · simp only; omega
      · simp only; omega
      · simp only; omega
      · simp only; omega
      · simp only; omega
      · simp only
        rw [show ((c:Int) + 1).toNat=c + 1 by omega,show ((i:Int) + 1).toNat=i + 1 by omega]
  · left
    rw [if_neg (by omega),show k - c=0 by omega]
    simp only [u0]
    rw [eV (by omega)]; rfl
theorem HJ (l:List aK) (i:Nat) (hs:SmT l) (hi:i≤l.length):rB l (i:Int)=some (vT l zE (sQ (tks l i))):=by
  have hl:=hs.1
  unfold rB
  simp only [aQ,aM,bE,bC]
  rw [if_neg (by omega)]
  refine (cW (fun s:Int × Int=>(0≤s.1∧s.1≤l.length)∧(0≤s.2∧s.2≤32)) (fun s=>33 - s.2.toNat) (fun s=>vT l zE (p7 s.2.toNat (fI (32 - s.2.toNat) (tks l s.1.toNat)))) ?_ (by refine ⟨⟨?_,?_⟩,?_,?_⟩ <;> simp only <;> omega)).trans ?_
  · rintro ⟨j,k⟩ ⟨hj,hk⟩
    simp only at hj hk ⊢
    obtain ⟨j,rfl⟩:=Int.eq_ofNat_of_zero_le hj.1
    obtain ⟨k,rfl⟩:=Int.eq_ofNat_of_zero_le hk.1
    simp only [Int.toNat_natCast]
    rw [AE,aC]
    cases ho:isT 4 [40] (tks l j)
    · left
      rw [bB,Ep ho,JX l j (by omega) hl,aC]
      unfold oX
      rcases (BJ (tks l j)).toks (by omega) with ⟨e,m,hr,h1,h2,h0,_⟩ | ⟨s,m,hr,h1,h2,hq⟩ <;> rw [hr]
      · rw [dS h2]
        simp only [if_neg h0,p7]
        rw [dS h2]; rfl
      · rw [eV h2]
        simp only [if_true]
        refine congrArg aY (?_:_=some (vT l zE (p7 k (if opP (tks l m)=0 then wr (tks l m) else vP s (opP (tks l m)) (tks l m).tail))))
        have hop:=JF (tks l m)
        refine (fH 7 (fun i a=>a=if opP (tks l m) < i then opP (tks l m) else 0) (fun _ _=>vT l zE (p7 k (if opP (tks l m)=0 then wr (tks l m) else vP s (opP (tks l m)) (tks l m).tail))) ?_ ?_ ?_)
        · intro i a hi ha
          right
          obtain ⟨g,hg,hg2⟩:=Oe i hi
          rw [if_pos (by simp only; omega),a7 hg,QJ,aC,aM]
          simp only [AE,aC]
          rw [aR (show -9223372036854775808≤(i:Int) + 1∧_ by omega),show (i:Int) + 1=((i + 1:Nat):Int) by omega]
          by_cases h1:1≤i
          · have hiff:=Ll (tks l m) i g ⟨h1,by omega⟩ hg
            rw [if_pos (by omega)]
            cases hx:isT 4 g (tks l m)
            · have hne:opP (tks l m) ≠ i:=fun h=>by have:=hiff.2 h; rw [hx] at this; cases this
              refine ⟨a,rfl,?_,trivial⟩
              rw [ha]
              by_cases h2:opP (tks l m) < i
              · rw [if_pos h2,if_pos (by omega)]
              · rw [if_neg h2,if_neg (by omega)]
            · have he:=hiff.1 hx
              refine ⟨(i:Int),rfl,?_,trivial⟩
              rw [if_pos (by omega),he]
          · rw [if_neg (by omega)]
            refine ⟨a,rfl,?_,trivial⟩
            rw [ha,if_neg (by omega)]
            by_cases h2:opP (tks l m) < ((i + 1:Nat):Int)
            · rw [if_pos h2]; omega
            · rw [if_neg h2]
        · intro a ha
          rw [if_pos (by omega)] at ha
          subst ha
          rw [if_neg (by simp only; omega)]
          simp only
          by_cases h0:opP (tks l m)=0
          · rw [if_pos h0,if_pos h0,pN,aC]
            simp only [p7,wr]
            rw [dS h2]; rfl
          · rw [if_neg h0,if_neg h0]
            obtain ⟨x,hx⟩:=Jx h0
            have hm:m < l.length:=by
              rcases Nat.lt_or_ge m l.length with h | h
              · exact h
              · rw [fJ h] at h0; exact absurd rfl h0
            rw [aR (show -9223372036854775808≤(m:Int) + 1∧_ by omega),show (m:Int) + 1=((m + 1:Nat):Int) by omega,cF]
            by_cases hm1:m + 1 < l.length
            · rw [if_neg (by omega),a7 (bQ hm1)]
              cases hk2:isK 2 (tks l (m + 1))
              · rw [if_neg (fun h=>by rw [NV hm1,hk2] at h; cases h),pN,aC,N3 hk2]
                simp only [p7,wr]
                rw [dS (by omega)]; rfl
              · rw [if_pos ((NV hm1).2 hk2),Je _ (hs.2 _ (iI hm1)),aC,Qi,Li hk2]
                by_cases h3:(m4 (nth l (m + 1)).S).2=0
                · rw [if_pos h3,if_pos h3]
                  simp only [p7]
                  rw [aR (by omega),show ((m + 1:Nat):Int) + 1=((m + 2:Nat):Int) by omega]
                  rw [MB l hl _ k (by omega) (m + 2) (by omega)]; rfl
                · rw [if_neg h3,if_neg h3]
                  simp only [p7]
                  rw [dS (by omega)]; rfl
            · rw [if_pos (by omega),pN,aC,fJ (show l.length≤m + 1 by omega)]
              have:vT l zE (Pr.er (tks l (m + 1)) 3)=(zE,((m + 1:Nat):Int),3):=dS (by omega)
              rw [fJ (show l.length≤m + 1 by omega)] at this
              simp only [vP,p7,wrE,this]; try rfl
        · rw [if_neg (by omega)]
    · have hj2:=cV ho
      rw [aV]
      by_cases h32:k=32
      · left
        subst h32
        rw [if_pos (by omega)]
        show aY _=some (Sum.inr (vT l zE (p7 32 (fI 0 (tks l j)))))
        unfold fI
        rw [ho]
        simp only [if_true,p7]
        rw [dS (by omega)]; rfl
      · right
        rw [if_neg (by omega),aR (by omega),aR (by omega)]
        refine ⟨_,rfl,⟨⟨?_,?_⟩,?_,?_⟩,?_,?_⟩
        · simp only; omega
        · simp only; omega
        · simp only; omega
        · simp only; omega
        · simp only; omega
        · simp only
          rw [show ((k:Int) + 1).toNat=k + 1 by omega,show ((j:Int) + 1).toNat=j + 1 by omega,show 32 - k=(32 - (k + 1)) + 1 by omega]
          congr 1
          conv=>rhs; unfold fI
          rw [ho,NI]
          simp only [if_true,cF]
          try rfl
  · simp only [Int.toNat_natCast]
    show some (vT l zE (p7 0 (fI 32 (tks l i))))=some (vT l zE (fI 32 (tks l i)))
    congr 2
    cases fI 32 (tks l i) <;> rfl
theorem Tw (l:List aK) (i:Nat):uY l (i:Int)=some (opP (tks l i)):=by
  unfold uY
  rw [show mT=some [[62],[62,61],[60],[60,61],[61,61],[33,61]] from rfl,aC]
  simp only [aQ,aM,bC]
  have hop:=JF (tks l i)
  refine (eA 6 (fun k=>if (k:Int) < opP (tks l i) then opP (tks l i) else 0) ?_ ?_).trans ?_
  · intro k hk
    obtain ⟨g,hg,hg2⟩:=Oe (k + 1) (by omega)
    have hiff:=Ll (tks l i) (k + 1) g ⟨by omega,by omega⟩ hg
    have hg3:([[62],[62,61],[60],[60,61],[61,61],[33,61]]:List Str)[k]?=some g:=hg
    rw [if_pos (by simp only [List.length_cons,List.length_nil]; omega),a7 hg3,gL l i 4 (hg2 (by omega)),aC,aR (show -9223372036854775808≤(k:Int) + 1∧_ by omega)]
    cases hx:isT 4 g (tks l i)
    · right
      have hne:opP (tks l i) ≠ ((k + 1:Nat):Int):=fun h=>by have:=hiff.2 h; rw [hx] at this; cases this
      simp only [Bool.false_eq_true,if_false,if_neg (dP _)]
      refine ⟨rfl,?_⟩
      by_cases h2:(k:Int) < opP (tks l i)
      · rw [if_pos h2,if_pos (by omega)]
      · rw [if_neg h2,if_neg (by omega)]
    · left
      have he:=hiff.1 hx
      simp only [if_true]
      rw [if_pos (by omega),he]; rfl
  · rw [if_neg (by simp only [List.length_cons,List.length_nil]; omega),if_neg (by omega)]; rfl
  · congr 1
    by_cases h2:((0:Nat):Int) < opP (tks l i)
    · rw [if_pos h2]
    · rw [if_neg h2]; omega
theorem Ob (l:List aK) (i:Nat) (hs:SmT l) (hi:i≤l.length):pE l (i:Int)=some (vT l zE (oX (tks l i))):=by
  have hl:=hs.1
  unfold pE
  rw [PR l i hs,aC]
  unfold oX
  simp only [aQ,aM,bE,bC,lD]
  rcases (BJ (tks l i)).toks hi with ⟨e,m,hr,h1,h2,h0,_⟩ | ⟨s,m,hr,h1,h2,hq⟩ <;> rw [hr]
  · rw [dS h2]
    simp only [if_neg h0]
    rw [dS h2]
  · rw [eV h2]
    simp only [if_true]
    rw [Tw,aC]
    by_cases h0:opP (tks l m)=0
    · rw [if_pos h0,if_pos h0,rH,aC]
      have hw:vT l zE (wr (tks l m))=(zE,(m:Int),wrE (tks l m)):=mF h2
      rw [hw]
      cases hk:isK 4 (tks l m)
      · simp only [Bool.false_eq_true,if_false,if_neg (dP _)]
        rw [eN h2,aC]
      · have:=f9 hk
        simp only [if_true]
        rw [eN h2,aC,j5 this]; rfl
    · rw [if_neg h0,if_neg h0]
      have hm:m < l.length:=by
        rcases Nat.lt_or_ge m l.length with h | h
        · exact h
        · rw [fJ h] at h0; exact absurd rfl h0
      rw [aR (show -9223372036854775808≤(m:Int) + 1∧_ by omega),aR (show -9223372036854775808≤(m:Int) + 2∧_ by omega),show (m:Int) + 1=((m + 1:Nat):Int) by omega,show (m:Int) + 2=((m + 2:Nat):Int) by omega,cF,rH,aC]
      cases hk:isK 2 (tks l (m + 1))
      · simp only [Bool.false_eq_true,if_false,if_neg (dP _)]
        rw [eN (by omega),aC,N3 hk,mF (by omega)]
      · have hm1:=f9 hk
        simp only [if_true]
        rw [a7 (bQ hm1),FU _ (hs.2 _ (iI hm1)),aC,Li hk]
        by_cases h3:(m4 (nth l (m + 1)).S).2=0
        · rw [if_pos h3,if_pos h3,eV (by omega)]
        · rw [if_neg h3,if_neg h3,dS (by omega)]
theorem EP (l:List aK) (hs:SmT l):∀ (n d i:Nat),i≤l.length→d≤32→32≤n + d→n≤63→iG (n + 1) l (i:Int) (d:Int)=some (vT l zE (fI (32 - d) (tks l i)))
  | n,d,i,hi,hd,hn,hn2=>by
    have hl:=hs.1
    unfold iG
    rw [gL l i 4 (by decide),aC]
    simp only [aQ,aM,bE,bC]
    cases ho:isT 4 [40] (tks l i)
    · simp only [Bool.false_eq_true,if_false,if_neg (dP _)]
      rw [Ob l i hs hi,aC,Ep ho]
    · have hi2:=cV ho
      simp only [if_true]
      by_cases h32:d=32
      · subst h32
        rw [if_pos (by omega)]
        show _=some (vT l zE (fI 0 (tks l i)))
        unfold fI
        rw [ho]
        simp only [if_true]
        rw [dS hi]
      · rw [if_neg (by omega),aR (by omega),aR (by omega),show (i:Int) + 1=((i + 1:Nat):Int) by omega,show (d:Int) + 1=((d + 1:Nat):Int) by omega]
        obtain ⟨n',rfl⟩:∃ n',n=n' + 1:=⟨n - 1,by omega⟩
        rw [EP l hs n' (d + 1) (i + 1) (by omega) (by omega) (by omega) (by omega),aC,show 32 - d=(32 - (d + 1)) + 1 by omega]
        conv=>rhs; unfold fI
        rw [ho]
        simp only [if_true,cF]
        rcases (nU (32 - (d + 1)) (tks l (i + 1))).toks (by omega) with ⟨e,m,hr,h1,h2,h0,_⟩ | ⟨x,m,hr,h1,h2,hq⟩ <;> rw [hr]
        · rw [dS h2]
          simp only [if_neg h0]
        · rw [eV h2]
          simp only [if_true]
          rw [gL l m 4 (by decide),aC]
          cases hc:isT 4 [41] (tks l m)
          · simp only [Bool.false_eq_true,if_false,if_neg (dP _)]
            rw [eN h2,aC,mF h2]
          · have:=cV hc
            simp only [if_true,cF]
            rw [aR (by omega),eV (by omega)]; rfl
theorem OW (l:List aK) (i:Nat) (hs:SmT l) (hi:i≤l.length):o9 l (i:Int)=some (vT l zE (sQ (tks l i))):=by
  unfold o9 ref09_within
  have:=EP l hs 63 0 i hi (by omega) (by omega) (by omega)
  rw [show ((0:Nat):Int)=0 from rfl] at this
  rw [this,aC]; rfl
end Go.Proofs.YtgkmbhllcekagaaGreatDoor.AM
/- Rules, parsed by the program. -/
namespace Go.Proofs.YtgkmbhllcekagaaGreatDoor.AM
open Go
abbrev zR:aZ:=⟨[],⟨⟨[],[]⟩,0,0⟩,0,0,[]⟩
theorem lQ (l:List aK) (i:Nat) (r:aZ) (k:Int):dE k ⟨l,(i:Int),r⟩=some (isK k (tks l i)):=by
  unfold dE
  simp only [aQ,aM,bC]
  by_cases h:i < l.length
  · rw [if_pos (by omega),a7 (bQ h),qK h]
  · rw [if_neg (by omega),fJ (by omega)]; rfl
theorem eI (l:List aK) (i:Nat) (r:aZ):b8 ⟨l,(i:Int),r⟩=some (wrE (tks l i)):=by
  unfold b8
  simp only [aQ,aM,bC]
  by_cases h:i < l.length
  · rw [if_neg (by omega),j5 h]; rfl
  · rw [if_pos (by omega),fJ (by omega)]; rfl
theorem TF {k:Int}{s:Str}{t:List Kt} (h:isK k t=false):isT k s t=false:=by
  rcases t with _ | ⟨x,r⟩
  · rfl
  · simp only [isK] at h
    simp only [isT,h,Bool.false_and]
theorem zW (l:List aK) (i:Nat) (r:aZ) (k:Int) (s:Str):gF k s ⟨l,(i:Int),r⟩=some (isT k s (tks l i)):=by
  unfold gF
  rw [eW,lQ,bD]
  simp only [aQ,bC]
  cases h:isK k (tks l i)
  · rw [TF h]; rfl
  · have hlt:=f9 h
    rw [qK hlt] at h
    rw [aV,a7 (bQ hlt),Cw hlt,h,Bool.true_and]
theorem g7 (l:List aK) (i:Nat) (r:aZ) (k:Int) (s:Str) (hl:l.length≤1000000):cJ k s ⟨l,(i:Int),r⟩=some (isT k s (tks l i),⟨l,if isT k s (tks l i) then ((i + 1:Nat):Int) else (i:Int),r⟩):=by
  unfold cJ
  rw [zW,bD]
  simp only [aQ,bC]
  cases h:isT k s (tks l i)
  · rfl
  · have hlt:=cV h
    rw [aV,aR (by omega)]; rfl
theorem Kc {t:List Kt} (h:isK 2 t=false):jC t=wr t:=by
  rcases t with _ | ⟨x,r⟩
  · rfl
  · simp only [isK,decide_eq_false_iff_not] at h
    simp only [jC,if_neg h]; try rfl
theorem FI {l:List aK}{i:Nat} (h:isK 2 (tks l i)=true):jC (tks l i)=if (mG (nth l i).S).2=0 then .ok (mG (nth l i).S).1 (tks l (i + 1)) else .er (tks l i) (mG (nth l i).S).2:=by
  have hl:=f9 h
  rw [j5 hl] at h ⊢
  simp only [isK,decide_eq_true_eq] at h
  simp only [jC,if_pos h]; try rfl
theorem Kd (l:List aK) (i:Nat) (r:aZ) (hs:SmT l) (hi:i≤l.length):fW ⟨l,(i:Int),r⟩=some ((jC (tks l i)).err,⟨l,nW l (jC (tks l i)).rem,⟨r.Name,r.E,(jC (tks l i)).val r.For,r.Keep,r.Labels⟩⟩):=by
  have hl:=hs.1
  unfold fW
  rw [lQ,bD]
  simp only [aQ,bE,aM,bC,eW]
  cases h:isK 2 (tks l i)
  · rw [bB,eI,bD,Kc h]
    simp only [wr,Pr.err,Pr.rem,Pr.val,cM hi]
  · have hlt:=f9 h
    rw [aV,a7 (bQ hlt),Cl _ (hs.2 _ (iI hlt)),aC,FI h]
    by_cases h0:(mG (nth l i).S).2=0
    · rw [if_pos h0,if_pos h0,aR (by omega),show (i:Int) + 1=((i + 1:Nat):Int) by omega]
      simp only [Pr.err,Pr.rem,Pr.val,cM (show i + 1≤l.length by omega)]
    · rw [if_neg h0,if_neg h0]
      simp only [Pr.err,Pr.rem,Pr.val,cM hi]
theorem J7 (l:List aK) (i:Nat) (r:aZ) (hs:SmT l) (hi:i≤l.length):fM ⟨l,(i:Int),r⟩=some ((jC (tks l i)).err,⟨l,nW l (jC (tks l i)).rem,⟨r.Name,r.E,r.For,(jC (tks l i)).val r.Keep,r.Labels⟩⟩):=by
  have hl:=hs.1
  unfold fM
  rw [lQ,bD]
  simp only [aQ,bE,aM,bC,eW]
  cases h:isK 2 (tks l i)
  · rw [bB,eI,bD,Kc h]
    simp only [wr,Pr.err,Pr.rem,Pr.val,cM hi]
  · have hlt:=f9 h
    rw [aV,a7 (bQ hlt),Cl _ (hs.2 _ (iI hlt)),aC,FI h]
    by_cases h0:(mG (nth l i).S).2=0
    · rw [if_pos h0,if_pos h0,aR (by omega),show (i:Int) + 1=((i + 1:Nat):Int) by omega]
      simp only [Pr.err,Pr.rem,Pr.val,cM (show i + 1≤l.length by omega)]
    · rw [if_neg h0,if_neg h0]
      simp only [Pr.err,Pr.rem,Pr.val,cM hi]
theorem GV {l:List aK}{i:Nat}:j8 (tks l i)=if isK 1 (tks l i) then (if isT 4 [61] (tks l (i + 1)) then (if isK 3 (tks l (i + 2)) then .ok ⟨(nth l i).S,(nth l (i + 2)).S⟩ (tks l (i + 3)) else wr (tks l (i + 2))) else wr (tks l (i + 1))) else wr (tks l i):=by
  rcases Nat.lt_or_ge i l.length with h | h
  · rw [qK h]
    rw [j5 h]
    simp only [j8]
    have e:(kv (nth l i)).1=(nth l i).K:=rfl
    rw [e]
    by_cases h1:(nth l i).K=1
    · simp only [h1,if_true,decide_true]
      cases h2:isT 4 [61] (tks l (i + 1))
      · rfl
      · simp only [if_true,cF]
        rcases Nat.lt_or_ge (i + 2) l.length with h3 | h3
        · rw [qK h3,show i + 1 + 1=i + 2 by omega,j5 h3]
          simp only
          have e:(kv (nth l (i + 2))).1=(nth l (i + 2)).K:=rfl
          rw [e]
          by_cases h4:(nth l (i + 2)).K=3
          · simp only [h4,if_true,decide_true]; try rfl
          · simp only [h4,if_false,decide_false,Bool.false_eq_true]; try rfl
        · rw [show i + 1 + 1=i + 2 by omega,fJ h3]; rfl
    · simp only [h1,if_false,decide_false,Bool.false_eq_true]; try rfl
  · rw [fJ h]; rfl
def vRr {α:Type} (l:List aK) (rl:aZ) (z:α) (r:Pr α):α × Int × a6:=(r.val z,r.err,⟨l,nW l r.rem,rl⟩)
theorem NW {α:Type}{l:List aK}{rl:aZ}{z:α}{j:Nat}{e:Int} (h:j≤l.length):vRr l rl z (.er (tks l j) e)=(z,e,⟨l,(j:Int),rl⟩):=by
  simp only [vRr,Pr.val,Pr.rem,Pr.err,cM h]
theorem N7 {α:Type}{l:List aK}{rl:aZ}{z a:α}{j:Nat} (h:j≤l.length):vRr l rl z (.ok a (tks l j))=(a,0,⟨l,(j:Int),rl⟩):=by
  simp only [vRr,Pr.val,Pr.rem,Pr.err,cM h]
theorem I2 {α:Type}{l:List aK}{rl:aZ}{z:α}{j:Nat} (h:j≤l.length):vRr l rl z (wr (tks l j))=(z,wrE (tks l j),⟨l,(j:Int),rl⟩):=NW h
theorem J2 (l:List aK) (i:Nat) (r:aZ) (hl:l.length≤1000000) (hi:i≤l.length):iQ ⟨l,(i:Int),r⟩=some (vRr l r ⟨[],[]⟩ (j8 (tks l i))):=by
  unfold iQ
  rw [lQ,bD,GV]
  simp only [aQ,bE,aM,bC]
  cases h:isK 1 (tks l i)
  · simp only [bB,Bool.false_eq_true,if_false]
    rw [eI,bD,I2 hi]
  · have hlt:=f9 h
    simp only [aV,if_true]
    rw [a7 (bQ hlt),aR (by omega),show (i:Int) + 1=((i + 1:Nat):Int) by omega,g7 l (i + 1) r 4 _ hl,bD]
    cases h2:isT 4 [61] (tks l (i + 1))
    · simp only [bB,Bool.false_eq_true,if_false]
      rw [eI,bD,I2 (by omega)]
    · have:=cV h2
      simp only [aV,if_true]
      rw [lQ,bD]
      cases h3:isK 3 (tks l (i + 1 + 1))
      · simp only [bB,Bool.false_eq_true,if_false]
        rw [eI,bD,I2 (by omega)]
      · have h4:=f9 h3
        simp only [aV,if_true]
        rw [a7 (bQ h4),aR (by omega),N7 (by omega)]; rfl
def tQ (more:Bool) (acc:List aJ) (t:List Kt):Pr (List aJ) :=
  if more then (match nN acc t with
    | .er u e=>.er u e
    | .ok l u=>w7 l u) else (if isT 4 [125] t then w7 acc t else wr t)
theorem M2 (acc:List aJ) (t:List Kt):tQ true acc t=match j8 t with
    | .er u e=>.er u e
    | .ok p u=>if isT 4 [44] u then tQ true (acc ++ [p]) u.tail else tQ false (acc ++ [p]) u:=by
  conv=>lhs; unfold tQ
  rw [if_pos rfl,wJ]
  cases j8 t with
  | er u e=>rfl
  | ok p u=>
    simp only
    cases h:isT 4 [125] u
    · cases h2:isT 4 [44] u
      · simp only [Bool.false_eq_true,if_false,tQ,h]; try rfl
      · simp only [Bool.false_eq_true,if_false,tQ,if_true]
    · have e:=r4 h
      have:isT 4 [44] u=false:=by rw [e]; exact nB _ (.inl (by decide))
      simp only [if_true,tQ,h,this,Bool.false_eq_true,if_false]
theorem N8 (t:List Kt):kD t=if isT 4 [123] t then tQ (!isT 4 [125] t.tail) [] t.tail else wr t:=by
  unfold kD
  cases isT 4 [123] t
  · rfl
  · simp only [if_true]
    cases h:isT 4 [125] t.tail
    · simp only [Bool.false_eq_true,if_false,Bool.not_false,tQ,if_true]; try rfl
    · simp only [if_true,Bool.not_true,tQ,h,Bool.false_eq_true,if_false]
theorem GT {l:List aJ}:(eU l).1.length≤l.length:=by
  unfold eU; split
  · exact Nat.le_of_eq (t8 l).length_eq
  · simp
theorem Gx (l:List aK) (i:Nat) (r:aZ) (hl:l.length≤1000000) (hi:i≤l.length):gU ⟨l,(i:Int),r⟩=some ((kD (tks l i)).err,⟨l,nW l (kD (tks l i)).rem,⟨r.Name,r.E,r.For,r.Keep,(kD (tks l i)).val r.Labels⟩⟩):=by
  unfold gU
  rw [g7 l i r 4 _ hl,bD,N8]
  simp only [aQ,gI,y6,bE,aM,bC]
  cases h:isT 4 [123] (tks l i)
  · simp only [bB,Bool.false_eq_true,if_false]
    rw [eI,bD]
    simp only [wr,Pr.err,Pr.rem,Pr.val,cM hi]
  · have hlt:=cV h
    simp only [aV,if_true,cF]
    rw [zW,bD]
    obtain ⟨nm,⟨⟨sn,sm⟩,op,v⟩,fr,kp,lb⟩:=r
    refine (cW (fun x:(List aK) × Int × Str × Str × (List a8) × Int × Int × Int × Int × (List aJ) × (List aJ) × Bool=>∃ (j:Nat) (acc:List aJ) (more:Bool),x=(l,(j:Int),nm,sn,sm,op,v,fr,kp,lb,acc,more)∧j≤l.length∧acc.length≤j) (fun x=>l.length - x.2.1.toNat)
      (fun x=>let g:=tQ x.2.2.2.2.2.2.2.2.2.2.2 x.2.2.2.2.2.2.2.2.2.2.1 (tks l x.2.1.toNat); (g.err,⟨l,nW l g.rem,⟨nm,⟨⟨sn,sm⟩,op,v⟩,fr,kp,g.val lb⟩⟩)) ?_ ⟨i + 1,[],_,rfl,by omega,by simp⟩).trans (by simp only [Int.toNat_natCast])
    rintro _ ⟨j,acc,more,rfl,hj,ha⟩
    simp only [Int.toNat_natCast]
    cases more
    · left
      rw [bB,zW,bD]
      unfold tQ
      simp only [Bool.false_eq_true,if_false]
      cases h2:isT 4 [125] (tks l j)
      · simp only [bB,Bool.false_eq_true,if_false]
        rw [eI,bD]
        simp only [wr,Pr.err,Pr.rem,Pr.val,cM hj]; try rfl
      · have hj2:=cV h2
        simp only [aV,if_true]
        rw [HL,aC]
        unfold w7
        by_cases h0:(eU acc).2=0
        · rw [if_pos h0,if_pos h0,u6 _ (by have:=@GT acc; omega),aC]
          cases h3:(eU acc).1.any fun p=>mI p.1
          · simp only [bB,Bool.false_eq_true,if_false]
            rw [aR (by omega),cF,show (j:Int) + 1=((j + 1:Nat):Int) by omega]
            simp only [Pr.err,Pr.rem,Pr.val,cM (show j + 1≤l.length by omega)]; try rfl
          · simp only [aV,if_true]
            simp only [Pr.err,Pr.rem,Pr.val,cM hj]; try rfl
        · rw [if_neg h0,if_neg h0]
          simp only [Pr.err,Pr.rem,Pr.val,cM hj]; try rfl
    · rw [aV,J2 l j _ hl hj,bD,M2]
      rcases (oE (tks l j)).toks hj with ⟨e,m,hr,h1,h2,h0,_⟩ | ⟨p,m,hr,h1,h2,hq⟩ <;> rw [hr]
      · left
        rw [NW h2]
        simp only [if_neg h0]
        simp only [Pr.err,Pr.rem,Pr.val,cM h2]; try rfl
      · right
        rw [N7 h2]
        simp only [if_true]
        rw [aN (by simp only [List.length_cons,List.length_nil]; omega),g7 l m _ 4 _ hl,bD]
        cases h3:isT 4 [44] (tks l m)
        · refine ⟨_,rfl,⟨m,acc ++ [p],false,rfl,h2,by simp only [List.length_append,List.length_singleton]; omega⟩,?_,?_⟩
          · simp only [Bool.false_eq_true,if_false,Int.toNat_natCast]; omega
          · simp only [Bool.false_eq_true,if_false,Int.toNat_natCast]
        · have hm:=cV h3
          refine ⟨_,rfl,⟨m + 1,acc ++ [p],true,rfl,by omega,by simp only [List.length_append,List.length_singleton]; omega⟩,?_,?_⟩
          · simp only [if_true,Int.toNat_natCast]; omega
          · simp only [if_true,Int.toNat_natCast,cF]
def Fe (r:aZ) (t:List Kt):Pr aZ:=if isT 4 [59] t then .ok r t.tail else wr t
def AZ (r:aZ) (t:List Kt):Pr aZ:=if isT 1 hY t then (match kD t.tail with
  | .er u e=>.er u e
  | .ok m u=>Fe ⟨r.Name,r.E,r.For,r.Keep,m⟩ u) else Fe r t
def Ah (r:aZ) (t:List Kt):Pr aZ:=if isT 1 gT t then (match jC t.tail with
  | .er u e=>.er u e
  | .ok d u=>AZ ⟨r.Name,r.E,r.For,d,r.Labels⟩ u) else AZ r t
def CI (r:aZ) (t:List Kt):Pr aZ:=if isT 1 iJ t then (match jC t.tail with
  | .er u e=>.er u e
  | .ok d u=>Ah ⟨r.Name,r.E,d,r.Keep,r.Labels⟩ u) else Ah r t
theorem J6 (nm:Str) (x:bF) (fr kp:Int) (t:List Kt):(match jP t with
      | .er u e=>.er u e
      | .ok l t3=>if isT 4 [59] t3 then .ok ⟨nm,x,fr,kp,l⟩ t3.tail else wr t3:Pr aZ)=AZ ⟨nm,x,fr,kp,[]⟩ t:=by
  unfold jP AZ
  cases isT 1 hY t
  · rfl
  · simp only [if_true]
    cases kD t.tail <;> rfl
theorem I8 (nm:Str) (x:bF) (fr:Int) (t:List Kt):(match q9 gT t with
      | .er u e=>.er u e
      | .ok kp t2=>match jP t2 with
        | .er u e=>.er u e
        | .ok l t3=>if isT 4 [59] t3 then .ok ⟨nm,x,fr,kp,l⟩ t3.tail else wr t3:Pr aZ)=Ah ⟨nm,x,fr,0,[]⟩ t:=by
  unfold q9 Ah
  cases isT 1 gT t
  · exact J6 nm x fr 0 t
  · simp only [if_true]
    cases jC t.tail with
    | er u e=>rfl
    | ok d u=>exact J6 nm x fr d u
theorem LS (nm:Str) (x:bF) (t:List Kt):sU nm x t=CI ⟨nm,x,0,0,[]⟩ t:=by
  unfold sU CI
  rw [show q9 iJ t=if isT 1 iJ t then jC t.tail else .ok 0 t from rfl]
  cases isT 1 iJ t
  · exact I8 nm x 0 t
  · simp only [if_true]
    cases jC t.tail with
    | er u e=>rfl
    | ok d u=>exact I8 nm x d u
def IsR (l:List aK) (T:Pr aZ) (x:Int × a6):Prop:=x.1=T.err∧x.2.l=l∧x.2.i=nW l T.rem∧∀ a u,T=.ok a u→x.2.r=a
theorem IsR.er {l:List aK}{j:Nat}{e i:Int}{r:aZ} (hj:j≤l.length) (hi:i=(j:Int)):IsR l (.er (tks l j) e) (e,⟨l,i,r⟩) :=
  ⟨rfl,rfl,by simp only [Pr.rem,cM hj,hi],fun _ _ h=>by cases h⟩
theorem IsR.ok {l:List aK}{j:Nat}{i:Int}{r:aZ} (hj:j≤l.length) (hi:i=(j:Int)):IsR l (.ok r (tks l j)) (0,⟨l,i,r⟩) :=
  ⟨rfl,rfl,by simp only [Pr.rem,cM hj,hi],fun _ _ h=>by cases h; rfl⟩
def S8 (k:Int) (r:aZ) (t:List Kt):Pr aZ:=if k=0 then CI r t else if k=1 then Ah r t else if k=2 then AZ r t else Fe r t
theorem QI {β:Type} (a b c:Option β):Cs 0 a b c=a:=rfl
theorem P5 {β:Type} (a b c:Option β):Cs 1 a b c=b:=rfl
theorem Qg {β:Type} (a b c:Option β):Cs 2 a b c=c:=rfl
theorem M8 (l:List aK) (i:Nat) (r:aZ) (hs:SmT l) (hi:i≤l.length):hJ ⟨l,(i:Int),r⟩=some ((jC (tks l i)).err,⟨l,nW l (jC (tks l i)).rem,⟨r.Name,r.E,(jC (tks l i)).val r.For,r.Keep,r.Labels⟩⟩):=by
  unfold hJ
  rw [lD,Kd l i r hs hi,bD]; rfl
theorem NG (l:List aK) (i:Nat) (r:aZ) (hs:SmT l) (hi:i≤l.length):g8 ⟨l,(i:Int),r⟩=some ((jC (tks l i)).err,⟨l,nW l (jC (tks l i)).rem,⟨r.Name,r.E,r.For,(jC (tks l i)).val r.Keep,r.Labels⟩⟩):=by
  unfold g8
  rw [lD,J7 l i r hs hi,bD]; rfl
theorem JT (l:List aK) (i:Nat) (hs:SmT l) (hi:i≤l.length):∃ x,gO ⟨l,(i:Int),zR⟩=some x∧IsR l (mE (tks l i)) x:=by
  have hl:=hs.1
  unfold gO
  rw [g7 l i _ 1 _ hl,bD]
  simp only [aQ,gI,OZ,lD,bE,aM,bC]
  unfold mE
  cases h:isT 1 [114,117,108,101] (tks l i)
  · have h':isT 1 m5 (tks l i)=false:=h
    simp only [bB,Bool.false_eq_true,if_false,h']
    rw [eI,bD]
    exact ⟨_,rfl,IsR.er hi rfl⟩
  · have h':isT 1 m5 (tks l i)=true:=h
    have hlt:=cV h
    simp only [aV,if_true,cF,h']
    rw [lQ,bD]
    cases h2:isK 1 (tks l (i + 1))
    · simp only [bB,Bool.false_eq_true,if_false]
      rw [eI,bD,yW h2]
      exact ⟨_,rfl,IsR.er (show i + 1≤l.length by omega) rfl⟩
    · have hlt2:=f9 h2
      simp only [aV]
      rw [a7 (bQ hlt2),kG,aC,u9 h2]
      cases h3:b9 (nth l (i + 1)).S
      · simp only [bB,Bool.false_eq_true,if_false]
        exact ⟨_,rfl,IsR.er (show i + 1≤l.length by omega) rfl⟩
      · simp only [aV,if_true]
        rw [aR (by omega),show ((i + 1:Nat):Int) + 1=((i + 2:Nat):Int) by omega,g7 l (i + 2) _ 4 _ hl,bD]
        cases h4:isT 4 [58] (tks l (i + 2))
        · have h4':isT 4 [58] (tks l (i + 1 + 1))=false:=h4
          simp only [bB,Bool.false_eq_true,if_false,h4']
          rw [eI,bD]
          exact ⟨_,rfl,IsR.er (show i + 2≤l.length by omega) rfl⟩
        · have h4':isT 4 [58] (tks l (i + 1 + 1))=true:=h4
          have hlt4:=cV h4
          simp only [aV,if_true,h4',cF]
          rw [HJ l (i + 2 + 1) hs (by omega),aC]
          show ∃ x,_∧IsR l (match sQ (tks l (i + 2 + 1)) with
            | .er u e=>.er u e
            | .ok x t2=>sU (nth l (i + 1)).S x t2) x
          rcases (show bH (tks l (i + 2 + 1)) (sQ (tks l (i + 2 + 1))) _ _ from nU 32 _).toks (by omega) with ⟨e,m,hr,h5,h6,h0,_⟩ | ⟨x,m,hr,h5,h6,hq⟩ <;> rw [hr]
          · rw [dS h6]
            simp only [if_neg h0]
            exact ⟨_,rfl,IsR.er h6 rfl⟩
          · rw [eV h6]
            simp only [if_true]
            rw [LS]
            generalize (nth l (i + 1)).S=nm at *
            generalize hT:CI ⟨nm,x,0,0,[]⟩ (tks l m)=T
            refine t7 (fun y:(List aK) × Int × Str × Str × (List a8) × Int × Int × Int × Int × (List aJ) × Int=>∃ (j:Nat) (q:aZ) (k:Int),y=(l,(j:Int),q.Name,q.E.S.Name,q.E.S.M,q.E.Op,q.E.V,q.For,q.Keep,q.Labels,k)∧j≤l.length∧(0≤k∧k≤3)∧S8 k q (tks l j)=T) (fun y=>4 - y.2.2.2.2.2.2.2.2.2.2.toNat) (fun x=>IsR l T x) ?_ ⟨m,⟨nm,x,0,0,[]⟩,0,rfl,h6,by omega,hT⟩
            rintro _ ⟨j,⟨qn,⟨⟨qs,qm⟩,qo,qv⟩,qf,qk,ql⟩,k,rfl,hj,hk,hsp⟩
            have:k=0 ∨ k=1 ∨ k=2 ∨ k=3:=by omega
            rcases this with rfl | rfl | rfl | rfl
            · simp only [QI,show ((0:Int) < 3)=True from by simp,if_true]
              rw [g7 l j _ 1 _ hl,bD,show wI ((0:Int) + 1)=1 from by decide]
              have hsp:CI ⟨qn,⟨⟨qs,qm⟩,qo,qv⟩,qf,qk,ql⟩ (tks l j)=T:=hsp
              unfold CI at hsp
              cases hF:isT 1 [102,111,114] (tks l j)
              · have hF':isT 1 iJ (tks l j)=false:=hF
                rw [hF'] at hsp
                right
                exact ⟨_,rfl,⟨j,⟨qn,⟨⟨qs,qm⟩,qo,qv⟩,qf,qk,ql⟩,1,rfl,hj,by omega,hsp⟩,by simp⟩
              · have hF':isT 1 iJ (tks l j)=true:=hF
                have hj2:=cV hF
                rw [hF'] at hsp
                simp only [aV,if_true,cF] at hsp ⊢
                rw [M8 l (j + 1) _ hs (by omega),bD]
                rcases (Bz (tks l (j + 1))).toks (by omega) with ⟨e,m,hr,h5,h6,h0,_⟩ | ⟨d,m,hr,h5,h6,hq⟩ <;> rw [hr] at hsp ⊢
                · left
                  simp only [Pr.err,Pr.rem,Pr.val,cM h6,if_neg h0]
                  subst hsp
                  exact ⟨_,rfl,IsR.er h6 rfl⟩
                · right
                  simp only [Pr.err,Pr.rem,Pr.val,cM h6,if_true]
                  exact ⟨_,rfl,⟨m,⟨qn,⟨⟨qs,qm⟩,qo,qv⟩,d,qk,ql⟩,1,rfl,h6,by omega,hsp⟩,by simp⟩
            · simp only [P5,show ((1:Int) < 3)=True from by simp,if_true]
              rw [g7 l j _ 1 _ hl,bD,show wI ((1:Int) + 1)=2 from by decide]
              have hsp:Ah ⟨qn,⟨⟨qs,qm⟩,qo,qv⟩,qf,qk,ql⟩ (tks l j)=T:=hsp
              unfold Ah at hsp
              cases hF:isT 1 [107,101,101,112] (tks l j)
              · have hF':isT 1 gT (tks l j)=false:=hF
                rw [hF'] at hsp
                right
                exact ⟨_,rfl,⟨j,⟨qn,⟨⟨qs,qm⟩,qo,qv⟩,qf,qk,ql⟩,2,rfl,hj,by omega,hsp⟩,by simp⟩
              · have hF':isT 1 gT (tks l j)=true:=hF
                have hj2:=cV hF
                rw [hF'] at hsp
                simp only [aV,if_true,cF] at hsp ⊢
                rw [NG l (j + 1) _ hs (by omega),bD]
                rcases (Bz (tks l (j + 1))).toks (by omega) with ⟨e,m,hr,h5,h6,h0,_⟩ | ⟨d,m,hr,h5,h6,hq⟩ <;> rw [hr] at hsp ⊢
                · left
                  simp only [Pr.err,Pr.rem,Pr.val,cM h6,if_neg h0]
                  subst hsp
                  exact ⟨_,rfl,IsR.er h6 rfl⟩
                · right
                  simp only [Pr.err,Pr.rem,Pr.val,cM h6,if_true]
                  exact ⟨_,rfl,⟨m,⟨qn,⟨⟨qs,qm⟩,qo,qv⟩,qf,d,ql⟩,2,rfl,h6,by omega,hsp⟩,by simp⟩
            · simp only [Qg,show ((2:Int) < 3)=True from by simp,if_true]
              rw [g7 l j _ 1 _ hl,bD,show wI ((2:Int) + 1)=3 from by decide]
              have hsp:AZ ⟨qn,⟨⟨qs,qm⟩,qo,qv⟩,qf,qk,ql⟩ (tks l j)=T:=hsp
              unfold AZ at hsp
              cases hF:isT 1 [108,97,98,101,108,115] (tks l j)
              · have hF':isT 1 hY (tks l j)=false:=hF
                rw [hF'] at hsp
                right
                exact ⟨_,rfl,⟨j,⟨qn,⟨⟨qs,qm⟩,qo,qv⟩,qf,qk,ql⟩,3,rfl,hj,by omega,hsp⟩,by simp⟩
              · have hF':isT 1 hY (tks l j)=true:=hF
                have hj2:=cV hF
                rw [hF'] at hsp
                simp only [aV,if_true,cF] at hsp ⊢
                rw [Gx l (j + 1) _ hl (by omega),bD]
                rcases (Ci (tks l (j + 1))).toks (by omega) with ⟨e,m,hr,h5,h6,h0,_⟩ | ⟨d,m,hr,h5,h6,hq⟩ <;> rw [hr] at hsp ⊢
                · left
                  simp only [Pr.err,Pr.rem,Pr.val,cM h6,if_neg h0]
                  subst hsp
                  exact ⟨_,rfl,IsR.er h6 rfl⟩
                · right
                  simp only [Pr.err,Pr.rem,Pr.val,cM h6,if_true]
                  exact ⟨_,rfl,⟨m,⟨qn,⟨⟨qs,qm⟩,qo,qv⟩,qf,qk,d⟩,3,rfl,h6,by omega,hsp⟩,by simp⟩
            · left
              simp only [show ((3:Int) < 3)=False from by simp,if_false]
              rw [g7 l j _ 4 _ hl,bD]
              have hsp:Fe ⟨qn,⟨⟨qs,qm⟩,qo,qv⟩,qf,qk,ql⟩ (tks l j)=T:=hsp
              unfold Fe at hsp
              cases hF:isT 4 [59] (tks l j)
              · rw [hF] at hsp
                simp only [bB,Bool.false_eq_true,if_false] at hsp ⊢
                rw [eI,bD]
                subst hsp
                exact ⟨_,rfl,IsR.er hj rfl⟩
              · have hj2:=cV hF
                rw [hF] at hsp
                simp only [aV,if_true,cF] at hsp ⊢
                subst hsp
                exact ⟨_,rfl,IsR.ok (show j + 1≤l.length by omega) rfl⟩
theorem mK (l:List aK) (i:Nat) (hs:SmT l):dW l (i:Int)=some (vT l zR (mE (tks l i))):=by
  have hl:=hs.1
  unfold dW
  simp only [aQ,aM,bE,bC,lD]
  have key:∀ j:Nat,j≤l.length→(bX [1] [.box [vS ([]:Str),vS ([]:Str),.v (.slice none 0 0),vI (0:Int),vI (0:Int),vI (0:Int),vI (0:Int),.v (.slice none 0 0)],.box [sl aF l,vI (j:Int),vS ([]:Str),vS ([]:Str),sl aB ([]:List a8),vI (0:Int),vI (0:Int),vI (0:Int),vI (0:Int),sl aD ([]:List aJ)]] (fun x4=>vI x4.1) (fun x4=>[.box [vS ([]:Str),vS ([]:Str),.v (.slice none 0 0),vI (0:Int),vI (0:Int),vI (0:Int),vI (0:Int),.v (.slice none 0 0)],.box [sl aF x4.2.l,vI x4.2.i,vS x4.2.r.Name,vS x4.2.r.E.S.Name,sl aB x4.2.r.E.S.M,vI x4.2.r.E.Op,vI x4.2.r.E.V,vI x4.2.r.For,vI x4.2.r.Keep,sl aD x4.2.r.Labels]]) (gO ⟨l,(j:Int),zR⟩) fun x4=>
      if x4.1=0 then some (x4.2.r,x4.2.i,(0:Int)) else some (zR,x4.2.i,x4.1))=some (vT l zR (mE (tks l j))):=by
    intro j hj
    obtain ⟨⟨e,⟨l',i',r'⟩⟩,hx,h1,h2,h3,h4⟩:=JT l j hs hj
    rw [hx,bD]
    simp only at h1 h2 h3 h4 ⊢
    rcases (AL (tks l j)).toks hj with ⟨e',m,hr,h5,h6,h0,_⟩ | ⟨a,m,hr,h5,h6,hq⟩ <;> rw [hr] at h1 h3 h4 ⊢
    · rw [dS h6]
      simp only [Pr.err,Pr.rem,cM h6] at h1 h3
      rw [h1,h3,if_neg h0]
    · rw [eV h6]
      simp only [Pr.err,Pr.rem,cM h6] at h1 h3
      rw [h1,h3,if_pos rfl,h4 a _ rfl]
  rw [if_neg (by omega)]
  rcases Nat.lt_or_ge i l.length with h | h
  · rw [show min (i:Int) (l.length:Int)=(i:Int) by omega]
    exact key i (by omega)
  · rw [show min (i:Int) (l.length:Int)=(l.length:Int) by omega,fJ h]
    have:=key l.length (Nat.le_refl _)
    rw [fJ (Nat.le_refl _)] at this
    exact this
end Go.Proofs.YtgkmbhllcekagaaGreatDoor.AM
/- Durations, parsed by the document's answer. -/
namespace Go.Proofs.YtgkmbhllcekagaaGreatDoor.AM
open Go
def DB (b:Int):Int:=if b=4 then 2 else 1
def stU (rest:Str) (b:Int) (i:Nat) (n:Str):Int:=if rest.take n.length=n∧(b < 0 ∨ DB b < n.length) then (i:Int) else b
def EO:List (Nat × Str)→Str→Int→Int
  | [],_,b=>b
  | (i,n) :: l,rest,b=>EO l rest (stU rest b i n)
def uL:List (Nat × Str):=[(0,[100]),(1,[104]),(2,[109]),(3,[115]),(4,[109,115])]
theorem PJ (i:Nat) (h:i < 5):∃ n k,DF[i]?=some ⟨n,k⟩∧uL.drop i=(i,n) :: uL.drop (i + 1)∧1≤n.length∧n.length≤2∧(n.length:Int)=DB i:=by
  have:i=0 ∨ i=1 ∨ i=2 ∨ i=3 ∨ i=4:=by omega
  rcases this with rfl | rfl | rfl | rfl | rfl
  all_goals exact ⟨_,_,rfl,rfl,by decide,by decide,by decide⟩
theorem Pp (rest:Str):EO uL rest (-1)=match dL rest with | some (k,_,_)=>(k:Int) | none=>-1:=by
  have h:∀ i n k,dH[i]?=some (n,k)→(rest.take n.length=n∧¬ (n=[109]∧rest.take 2=[109,115]) ↔ dL rest=some (i,n.length,k)):=fun i n k h=>Lz rest i n k h
  have h0:=h 0 _ _ rfl
  have h1:=h 1 _ _ rfl
  have h2:=h 2 _ _ rfl
  have h3:=h 3 _ _ rfl
  have h4:=h 4 _ _ rfl
  simp only [List.length_cons,List.length_nil,List.cons.injEq,and_true] at h0 h1 h2 h3 h4
  simp only [EO,uL,stU,List.length_cons,List.length_nil]
  rcases rest with _ | ⟨c,r⟩
  · rfl
  simp only [List.take_succ_cons,List.take_zero,List.cons.injEq,and_true] at h0 h1 h2 h3 h4 ⊢
  by_cases c0:c=100
  · subst c0; rw [h0.1 (by simp)]; simp [DB]
  by_cases c1:c=104
  · subst c1; rw [h1.1 (by simp)]; simp [DB]
  by_cases c3:c=115
  · subst c3; rw [h3.1 (by simp)]; simp [DB]
  by_cases c2:c=109
  · subst c2
    by_cases c4:r.take 1=[115]
    · rw [h4.1 (by simp [c4])]; simp [DB,c4]
    · rw [h2.1 (by simp [c4])]; simp [DB,c4]
  · have hn:dL (c :: r)=none:=by
      unfold dL
      split
      · rename_i e; cases e; exact absurd rfl c0
      · rename_i e; cases e; exact absurd rfl c1
      · rename_i e; cases e; exact absurd rfl c2
      · rename_i e; cases e; exact absurd rfl c2
      · rename_i e; cases e; exact absurd rfl c3
      · rfl
    rw [hn]; simp [c0,c1,c2,c3]
theorem Ps (s:Str) (a n:Nat) (h:a + n≤s.length):(s.take (a + n)).drop a=(s.drop a).take n:=by
  rw [List.drop_take]; congr 1; omega
theorem Qm (s:Str) (a:Nat) (hs:s.length≤1000000) (ha:a≤s.length):rP s (a:Int)=some (match dL (s.drop a) with | some (k,_,_)=>(k:Int) | none=>-1):=by
  unfold rP
  rw [DZ,aC,← Pp]
  simp only [aQ,aM,bC]
  refine (fH 5 (fun i (b:Int)=>-1≤b∧b < i) (fun i b=>EO (uL.drop i) (s.drop a) b) ?_ ?_ (by omega)).trans (by simp)
  · intro i b hi hb
    right
    obtain ⟨n,k,e1,e2,hn1,hn2,hn3⟩:=PJ i hi
    rw [if_pos (by rw [show DF.length=5 from rfl]; simp only; omega),a7 e1,e2]
    simp only [EO]
    rw [aR (show -9223372036854775808≤(a:Int) + (n.length:Int)∧_ by omega),aR (show -9223372036854775808≤(i:Int) + 1∧_ by omega),show (i:Int) + 1=((i + 1:Nat):Int) by omega]
    by_cases hl:a + n.length≤s.length
    · rw [if_pos (by omega),aN (by omega),show ((a:Int) + (n.length:Int)).toNat=a + n.length by omega,Int.toNat_natCast,Ps s a _ hl]
      by_cases ht:(s.drop a).take n.length=n
      · rw [if_pos ht]
        by_cases hb0:b < 0
        · rw [if_pos hb0]
          refine ⟨(i:Int),rfl,by omega,?_⟩
          unfold stU; rw [if_pos ⟨ht,.inl hb0⟩]
        · rw [if_neg hb0]
          obtain ⟨b,rfl⟩:=Int.eq_ofNat_of_zero_le (show 0≤b by omega)
          obtain ⟨n',k',e1',_,hn1',_,hn3'⟩:=PJ b (by omega)
          rw [a7 e1']
          simp only [cond_false,aM]
          by_cases hlt:(n'.length:Int) < (n.length:Int)
          · rw [if_pos hlt]
            refine ⟨(i:Int),rfl,by omega,?_⟩
            unfold stU; rw [if_pos ⟨ht,.inr (by omega)⟩]
          · rw [if_neg hlt]
            refine ⟨(b:Int),rfl,by omega,?_⟩
            unfold stU; rw [if_neg (by rintro ⟨_,h | h⟩ <;> omega)]
      · rw [if_neg ht]
        refine ⟨b,rfl,by omega,?_⟩
        unfold stU; rw [if_neg (fun h=>ht h.1)]
    · rw [if_neg (by omega)]
      refine ⟨b,rfl,by omega,?_⟩
      unfold stU; rw [if_neg]
      rintro ⟨h,_⟩
      have:=congrArg List.length h
      rw [List.length_take,List.length_drop] at this; omega
  · intro b hb
    rw [if_neg (by rw [show DF.length=5 from rfl]; simp only; omega)]
    rfl
theorem P3 (k n z:Nat) (s:Str) (h:dL s=some (k,n,z)):∃ nm,DF[k]?=some ⟨nm,(z:Int)⟩∧nm.length=n:=by
  obtain ⟨nm,h1,h2⟩:=ER h
  have hk:=(mV h).1
  have:k=0 ∨ k=1 ∨ k=2 ∨ k=3 ∨ k=4:=by omega
  rcases this with rfl | rfl | rfl | rfl | rfl <;> cases h1 <;> exact ⟨_,rfl,h2⟩
theorem F3 (s:Str) (hs:s.length≤1000000):o8 s=some (mG s):=by
  unfold o8
  rw [DZ,aC]
  simp only [aQ,fK,aM,bC,← Bool.decide_or]
  refine (cW (fun x:Int × Int × Int=>(0≤x.1∧x.1≤36028797018963968)∧(-1≤x.2.1∧x.2.1≤4)∧(0≤x.2.2∧x.2.2≤s.length)) (fun x=>s.length - x.2.2.toNat)
    (fun x=>if x.2.1 < 0∧s.drop x.2.2.toNat=[] then (0,1) else r7 (s.drop x.2.2.toNat) (x.2.1 + 1).toNat x.1) ?_ (by refine ⟨⟨?_,?_⟩,⟨?_,?_⟩,?_,?_⟩ <;> simp only <;> omega)).trans (by simp [F0])
  rintro ⟨sum,last,a⟩ ⟨hsum,hla,ha⟩
  simp only at hsum hla ha ⊢
  obtain ⟨a,rfl⟩:=Int.eq_ofNat_of_zero_le ha.1
  simp only [Int.toNat_natCast]
  have ha2:a≤s.length:=by omega
  by_cases hlt:a < s.length
  · have hne:s.drop a ≠ []:=by intro h; have:=congrArg List.length h; rw [List.length_drop] at this; simp at this; omega
    rw [if_pos (by omega),rJ s a hs (by omega),aC,if_neg (fun h=>hne h.2),Cz hne]
    have e:=List.takeWhile_append_dropWhile (p:=isD) (l:=s.drop a)
    have hlen:=congrArg List.length e
    rw [List.length_append,List.length_drop] at hlen
    have hrl:GL s a=((s.drop a).takeWhile isD).length:=rfl
    have hdrop:s.drop (a + ((s.drop a).takeWhile isD).length)=(s.drop a).dropWhile isD:=by
      rw [← List.drop_drop]
      conv=>lhs; arg 2; rw [← e]
      exact List.drop_left
    have hds:=jD (s.drop a)
    rw [hrl]
    revert hdrop hlen e hds
    generalize hgd:(s.drop a).takeWhile isD=ds
    generalize hgr:(s.drop a).dropWhile isD=rest
    intro e hlen hdrop hds
    rw [aR (by omega),show (a:Int) + (ds.length:Int)=((a + ds.length:Nat):Int) by omega,Qm s _ hs (by omega),aC,hdrop]
    by_cases h1:ds=[]
    · left
      rw [if_pos (.inl (by rw [h1]; rfl)),if_pos h1]; rfl
    rw [if_neg h1]
    have hpos:0 < ds.length:=List.length_pos_iff.2 h1
    rcases hu:dL rest with _ | ⟨k,n,z⟩
    · left
      rw [if_pos (.inr (by simp only; omega))]; rfl
    · simp only
      by_cases h2:(last + 1).toNat≤k
      · right
        rw [if_neg (by omega),if_pos h2]
        obtain ⟨nm,e1,e2⟩:=P3 k n z rest hu
        have hk:=mV hu
        have hv:=iO ds hds (Int.le_refl 0)
        have hvz:0≤gQ ds * z:=Int.mul_nonneg hv (by omega)
        have hge:=NR hv hk.2.2.2.1
        have hsat:=r8 (cap:=36028797018963968) (by omega) ds hds (Int.le_refl 0)
        simp only [show min (0:Int) 36028797018963968=0 from rfl] at hsat
        have fin:∀ S:Int,(0≤S∧S≤36028797018963968)→min S 9007199254740993=min (sum + gQ ds * z) 9007199254740993→∃ s':Int × Int × Int,(some (Sum.inl (S,(k:Int),((a + ds.length + n:Nat):Int))):Option ((Int × Int × Int) ⊕ (Int × Int)))=some (Sum.inl s')∧((0≤s'.1∧s'.1≤36028797018963968)∧(-1≤s'.2.1∧s'.2.1≤4)∧(0≤s'.2.2∧s'.2.2≤s.length))∧s.length - s'.2.2.toNat < s.length - a ∧
            (if s'.2.1 < 0∧s.drop s'.2.2.toNat=[] then ((0:Int),(1:Int)) else r7 (s.drop s'.2.2.toNat) (s'.2.1 + 1).toNat s'.1)=r7 (rest.drop n) (k + 1) (sum + gQ ds * z):=by
          intro S hS hm
          refine ⟨_,rfl,⟨hS,⟨?_,?_⟩,?_,?_⟩,?_,?_⟩
          · simp only; omega
          · simp only; omega
          · simp only; omega
          · simp only; omega
          · simp only [Int.toNat_natCast]; omega
          · simp only [Int.toNat_natCast]
            rw [if_neg (by rintro ⟨h,_⟩; omega),← List.drop_drop,hdrop,show ((k:Int) + 1).toNat=k + 1 by omega]
            exact Fa hm
        rw [fH ds.length (fun i v=>0≤v∧v≤36028797018963968) (fun i v=>(Sum.inl (if 9007199254740992 / (z:Int) < (ds.drop i).foldl (kB 36028797018963968) v then min (sum + (9007199254740992 / (z:Int) + 1) * z) 36028797018963968 else min (sum + (ds.drop i).foldl (kB 36028797018963968) v * z) 36028797018963968,(k:Int),((a + ds.length + n:Nat):Int)):(Int × Int × Int) ⊕ (Int × Int))) ?_ ?_ (by omega)]
        · rw [List.drop_zero,hsat]
          have hq0:0≤9007199254740992 / (z:Int):=Int.ediv_nonneg (by omega) (by omega)
          have hiff:=Int.ediv_lt_iff_lt_mul (a:=9007199254740992) (b:=gQ ds) (c:=(z:Int)) (by omega)
          have hiff2:=Int.ediv_lt_iff_lt_mul (a:=9007199254740992) (b:=9007199254740992 / (z:Int) + 1) (c:=(z:Int)) (by omega)
          have hqs:9007199254740992 / (z:Int)≤9007199254740992:=Int.ediv_le_self _ (by omega)
          have hb:(9007199254740992 / (z:Int)) * z≤9007199254740992:=Int.ediv_mul_le _ (by omega)
          have hexp:(9007199254740992 / (z:Int) + 1) * z=(9007199254740992 / (z:Int)) * z + z:=by rw [Int.add_mul,Int.one_mul]
          have h5:=hiff2.1 (by omega)
          have hvl:ds.foldl kA 0=gQ ds:=rfl
          rw [hvl]
          by_cases h3:9007199254740992 / (z:Int) < min (gQ ds) 36028797018963968
          · rw [if_pos h3]
            have h4:=hiff.1 (by omega)
            exact fin _ (by omega) (by omega)
          · rw [if_neg h3]
            have h4:¬ 9007199254740992 < gQ ds * z:=fun h=>by have:=hiff.2 h; omega
            rw [show min (gQ ds) 36028797018963968=gQ ds from by omega]
            exact fin _ (by omega) (by omega)
        · intro i v hi hv2
          right
          have hni:s[a + i]?=some (nth ds i):=by
            have:(s.drop a)[i]?=some (nth ds i):=by rw [← e,List.getElem?_append_left hi]; exact bQ hi
            rw [List.getElem?_drop] at this; exact this
          have hd:=jR.1 (hds _ (iI hi))
          rw [if_pos (by simp only; omega)]
          simp only []
          rw [aR (show -9223372036854775808≤(a:Int) + (i:Int)∧_ by omega),show (a:Int) + (i:Int)=((a + i:Nat):Int) by omega,a7 hni,aR (show -9223372036854775808≤v * 10∧_ by omega),aR (show -9223372036854775808≤((nth ds i).toNat:Int)∧_ by omega),aR (show -9223372036854775808≤v * 10 + ((nth ds i).toNat:Int)∧_ by omega),aR (show -9223372036854775808≤v * 10 + ((nth ds i).toNat:Int) - 48∧_ by omega),aR (by omega)]
          refine ⟨kB 36028797018963968 v (nth ds i),?_,?_,?_⟩
          · simp only [kB,kA]
            rw [show v * 10 + (((nth ds i).toNat:Int) - 48)=v * 10 + ((nth ds i).toNat:Int) - 48 by omega]; rfl
          · simp only [kB,kA]; omega
          · rw [eF hi,List.foldl_cons]
        · intro v hv2
          rw [if_neg (by simp only; omega),a7 e1,aN (by simp only; omega),aN (by simp only; omega)]
          simp only [List.drop_length,List.foldl_nil]
          have hq0:0≤9007199254740992 / (z:Int):=Int.ediv_nonneg (by omega) (by omega)
          have hqs:9007199254740992 / (z:Int)≤9007199254740992:=Int.ediv_le_self _ (by omega)
          have hb:(9007199254740992 / (z:Int)) * z≤9007199254740992:=Int.ediv_mul_le _ (by omega)
          have hexp:(9007199254740992 / (z:Int) + 1) * z=(9007199254740992 / (z:Int)) * z + z:=by rw [Int.add_mul,Int.one_mul]
          have hnn:0≤(9007199254740992 / (z:Int)) * z:=Int.mul_nonneg hq0 (by omega)
          rw [Jq (by omega),aR (show -9223372036854775808≤9007199254740992 / (z:Int)∧_ by omega)]
          have hpos2:wI (wI (((a + ds.length:Nat):Int)) + (nm.length:Int))=((a + ds.length + n:Nat):Int):=by
            rw [aR (show -9223372036854775808≤((a + ds.length:Nat):Int)∧_ by omega),aR (by omega)]; omega
          have hpos3:wI (((a + ds.length:Nat):Int) + (nm.length:Int))=((a + ds.length + n:Nat):Int):=by
            rw [aR (by omega)]; omega
          by_cases h3:9007199254740992 / (z:Int) < v
          · rw [if_pos h3,if_pos h3,aR (show -9223372036854775808≤9007199254740992 / (z:Int) + 1∧_ by omega),aR (show -9223372036854775808≤(9007199254740992 / (z:Int) + 1) * z∧_ by omega),aR (show -9223372036854775808≤sum + (9007199254740992 / (z:Int) + 1) * z∧_ by omega),hpos3]; rfl
          · have hvz2:v * z≤(9007199254740992 / (z:Int)) * z:=Int.mul_le_mul_of_nonneg_right (by omega) (by omega)
            have hvz3:0≤v * z:=Int.mul_nonneg hv2.1 (by omega)
            rw [if_neg h3,if_neg h3,aR (show -9223372036854775808≤v * z∧_ by omega),aR (show -9223372036854775808≤sum + v * z∧_ by omega),hpos3]; rfl
      · left
        rw [if_pos (.inr (by omega)),if_neg h2]; rfl
  · left
    have h0:s.drop a=[]:=List.drop_eq_nil_of_le (by omega)
    rw [if_neg (by omega),h0]
    by_cases hl:last < 0
    · rw [if_pos hl,if_pos ⟨hl,rfl⟩]; rfl
    · rw [if_neg hl,if_neg (show ¬ (last < 0∧([]:Str)=[]) from fun h=>hl h.1),AH]
      unfold mL
      by_cases h1:sum≤9007199254740992
      · rw [if_neg (by omega),if_pos h1]; rfl
      · rw [if_pos (by omega),if_neg h1]; rfl
end Go.Proofs.YtgkmbhllcekagaaGreatDoor.AM
/- Rules, parsed by the document's answer. -/
namespace Go.Proofs.YtgkmbhllcekagaaGreatDoor.AM
open Go
theorem BI (l:List aK) (i:Nat) (w:Str) (hw:w ≠ []) (hs:SmT l) (hi:i≤l.length):jT l (i:Int) w=some (vT l 0 (q9 w (tks l i))):=by
  have hl:=hs.1
  unfold jT
  rw [gL l i 1 hw,aC]
  unfold q9
  simp only [aQ,aM,bE,bC]
  cases h:isT 1 w (tks l i)
  · simp only [Bool.false_eq_true,if_false,if_neg (dP _)]
    rw [eV hi]
  · have hlt:=cV h
    simp only [if_true,cF]
    rw [aR (show -9223372036854775808≤(i:Int) + 1∧_ by omega),aR (show -9223372036854775808≤(i:Int) + 2∧_ by omega),show (i:Int) + 1=((i + 1:Nat):Int) by omega,show (i:Int) + 2=((i + 2:Nat):Int) by omega,rH,aC]
    cases h2:isK 2 (tks l (i + 1))
    · simp only [Bool.false_eq_true,if_false,if_neg (dP _)]
      rw [eN (by omega),aC,Kc h2,mF (by omega)]
    · have hlt2:=f9 h2
      simp only [if_true]
      rw [a7 (bQ hlt2),F3 _ (hs.2 _ (iI hlt2)),aC,FI h2]
      by_cases h0:(mG (nth l (i + 1)).S).2=0
      · rw [if_pos h0,if_pos h0,eV (by omega)]
      · rw [if_neg h0,if_neg h0,dS (by omega)]
theorem O9 (l:List aK) (i:Nat) (hs:SmT l) (hi:i≤l.length):rV l (i:Int)=some (vT l ⟨[],[]⟩ (j8 (tks l i))):=by
  have hl:=hs.1
  unfold rV
  rw [GV]
  simp only [aQ,aM,bE,bC,eW,lD]
  cases h:isK 1 (tks l i)
  · refine lY ?_
    simp only [show ((0:Int) < 3)=True from by simp,if_true]
    rw [aR (by omega),show (i:Int) + 0=(i:Int) by omega,cU (x:=1) (by omega) (by rfl),cU (x:=[]) (by omega) (by rfl),rH,aC]
    simp only [h,Bool.false_eq_true,if_false,if_neg (dP _)]
    rw [eN hi,aC,mF hi]; rfl
  · have hlt:=f9 h
    simp only [if_true]
    rw [uC (s':=(1:Int)) (by
      simp only [show ((0:Int) < 3)=True from by simp,if_true]
      rw [aR (x:=(i:Int) + 0) (by omega),show (i:Int) + 0=(i:Int) by omega,cU (x:=1) (by omega) (by rfl),cU (x:=[]) (by omega) (by rfl),rH,aC]
      simp only [h,if_true]; rfl)]
    cases h2:isT 4 [61] (tks l (i + 1))
    · refine lY ?_
      simp only [show ((1:Int) < 3)=True from by simp,if_true]
      rw [aR (by omega),show (i:Int) + 1=((i + 1:Nat):Int) by omega,cU (x:=4) (by omega) (by rfl),cU (x:=[61]) (by omega) (by rfl),gL _ _ _ (by decide),aC]
      simp only [h2,Bool.false_eq_true,if_false,if_neg (dP _)]
      rw [eN (by omega),aC,mF (by omega)]; rfl
    · have hlt2:=cV h2
      simp only [if_true]
      rw [uC (s':=(2:Int)) (by
        simp only [show ((1:Int) < 3)=True from by simp,if_true]
        rw [aR (x:=(i:Int) + 1) (by omega),show (i:Int) + 1=((i + 1:Nat):Int) by omega,cU (x:=4) (by omega) (by rfl),cU (x:=[61]) (by omega) (by rfl),gL _ _ _ (by decide),aC]
        simp only [h2,if_true]; rfl)]
      cases h3:isK 3 (tks l (i + 2))
      · refine lY ?_
        simp only [show ((2:Int) < 3)=True from by simp,if_true]
        rw [aR (by omega),show (i:Int) + 2=((i + 2:Nat):Int) by omega,cU (x:=3) (by omega) (by rfl),cU (x:=[]) (by omega) (by rfl),rH,aC]
        simp only [h3,Bool.false_eq_true,if_false,if_neg (dP _)]
        rw [eN (by omega),aC,mF (by omega)]; rfl
      · have hlt3:=f9 h3
        simp only [if_true]
        rw [uC (s':=(3:Int)) (by
          simp only [show ((2:Int) < 3)=True from by simp,if_true]
          rw [aR (x:=(i:Int) + 2) (by omega),show (i:Int) + 2=((i + 2:Nat):Int) by omega,cU (x:=3) (by omega) (by rfl),cU (x:=[]) (by omega) (by rfl),rH,aC]
          simp only [h3,if_true]; rfl)]
        refine lY ?_
        simp only [show ((3:Int) < 3)=False from by simp,if_false]
        rw [a7 (bQ hlt),aR (show -9223372036854775808≤(i:Int) + 2∧_ by omega),aR (show -9223372036854775808≤(i:Int) + 3∧_ by omega),show (i:Int) + 2=((i + 2:Nat):Int) by omega,a7 (bQ hlt3),show (i:Int) + 3=((i + 3:Nat):Int) by omega,eV (by omega)]; rfl
theorem N2 (l:List aK) (i:Nat) (hs:SmT l) (hi:i≤l.length):pA l (i:Int)=some (vT l [] (if isT 4 [125] (tks l i) then .ok [] (tks l i) else nN [] (tks l i))):=by
  have hl:=hs.1
  unfold pA
  rw [gL l i 4 (by decide),aC]
  simp only [aQ,gI,y6,aM,bE,bC]
  cases h:isT 4 [125] (tks l i)
  · simp only [Bool.false_eq_true,if_false,if_neg (dP _)]
    refine (cW (fun x:Int × List aJ=>(0≤x.1∧x.1≤l.length)∧x.2.length≤x.1) (fun x=>l.length - x.1.toNat) (fun x=>vT l [] (nN x.2 (tks l x.1.toNat))) ?_ (by refine ⟨⟨?_,?_⟩,?_⟩ <;> simp only [List.length_nil] <;> omega)).trans (by simp only [Int.toNat_natCast])
    rintro ⟨k,acc⟩ ⟨hk,ha⟩
    simp only at hk ha ⊢
    obtain ⟨k,rfl⟩:=Int.eq_ofNat_of_zero_le hk.1
    simp only [Int.toNat_natCast]
    rw [O9 l k hs (by omega),aC,wJ]
    rcases (oE (tks l k)).toks (by omega) with ⟨e,m,hr,h1,h2,h0,_⟩ | ⟨p,m,hr,h1,h2,hq⟩ <;> rw [hr]
    · left
      rw [dS h2]
      simp only [if_neg h0]
      rw [dS h2]; rfl
    · rw [eV h2]
      simp only [if_true]
      rw [aN (by simp only [List.length_cons,List.length_nil]; omega),gL l m 4 (by decide),aC]
      cases h3:isT 4 [125] (tks l m)
      · simp only [Bool.false_eq_true,if_false,if_neg (dP _)]
        rw [gL l m 4 (by decide),aC]
        cases h4:isT 4 [44] (tks l m)
        · left
          simp only [Bool.false_eq_true,if_false,if_neg (dP _)]
          rw [eN h2,aC,mF h2]; rfl
        · right
          have:=cV h4
          simp only [if_true,cF]
          rw [aR (by omega)]
          refine ⟨_,rfl,⟨⟨?_,?_⟩,?_⟩,?_,?_⟩
          · simp only; omega
          · simp only; omega
          · simp only [List.length_append,List.length_singleton]; omega
          · simp only; omega
          · simp only
            rw [show ((m:Int) + 1).toNat=m + 1 by omega]
      · left
        simp only [if_true]
        rw [eV h2]; rfl
  · simp only [if_true]
    rw [eV hi]
theorem Fb:∀ (f:Nat) (acc:List aJ) (t:List Kt) (l:List aJ) (u:List Kt),mQ f acc t=.ok l u→(∀ p ∈ acc,p.1.length≤1000000∧p.2.length≤1000000)→(∀ x ∈ t,x.2.length≤1000000)→l.length≤acc.length + t.length∧∀ p ∈ l,p.1.length≤1000000∧p.2.length≤1000000
  | 0,_,_,_,_,h,_,_=>by cases h
  | f + 1,acc,t,l,u,h,ha,ht=>by
    unfold mQ at h
    have hp:=oE t
    have hp2:∀ p v,j8 t=.ok p v→p.1.length≤1000000∧p.2.length≤1000000:=by
      intro p v h
      rcases t with _ | ⟨w,t1⟩
      · cases h
      · simp only [j8] at h
        split at h
        · split at h
          · rcases hq:t1.tail with _ | ⟨y,t3⟩
            · rw [hq] at h; cases h
            · rw [hq] at h
              simp only at h
              split at h
              · cases h
                refine ⟨ht w (by simp),ht y ?_⟩
                have:y ∈ t1.tail:=by rw [hq]; simp
                exact List.mem_cons_of_mem _ (List.mem_of_mem_tail this)
              · cases h
          · cases h
        · cases h
    cases hm:j8 t with
    | er v e=>rw [hm] at h; cases h
    | ok p v=>
      rw [hm] at h
      simp only at h
      obtain ⟨h1,⟨q,b⟩,_⟩:=hp.ok p v hm
      have hacc:∀ p' ∈ acc ++ [p],p'.1.length≤1000000∧p'.2.length≤1000000:=by
        intro p' hp'
        rcases List.mem_append.1 hp' with h2 | h2
        · exact ha p' h2
        · rw [List.mem_singleton.1 h2]; exact hp2 p v hm
      split at h
      · cases h
        exact ⟨by simp only [List.length_append,List.length_singleton]; omega,hacc⟩
      · split at h
        · have:=Fb f _ _ l u h hacc (fun x hx=>ht x (by rw [b]; exact List.mem_append_right _ (List.mem_of_mem_tail hx)))
          refine ⟨?_,this.2⟩
          have h3:=this.1
          simp only [List.length_append,List.length_singleton,List.length_tail] at h3; omega
        · cases h
theorem PZ {l:List aK} (hs:SmT l) (i:Nat):∀ x ∈ tks l i,x.2.length≤1000000:=by
  intro x hx
  unfold tks at hx
  obtain ⟨y,hy,rfl⟩:=List.mem_map.1 hx
  exact hs.2 y (List.mem_of_mem_drop hy)
theorem MU (l:List aK) (i:Nat) (hs:SmT l) (hi:i≤l.length) (hN:l.length≤100000):nR l (i:Int)=some (vT l [] (jP (tks l i))):=by
  have hl:=hs.1
  unfold nR
  rw [gL l i 1 (by decide),aC]
  unfold jP
  simp only [aQ,aM,bE,bC]
  cases h:isT 1 [108,97,98,101,108,115] (tks l i)
  · have h':isT 1 hY (tks l i)=false:=h
    simp only [h',Bool.false_eq_true,if_false,if_neg (dP _)]
    rw [eV hi]
  · have h':isT 1 hY (tks l i)=true:=h
    have hlt:=cV h
    simp only [h',if_true,cF]
    rw [aR (show -9223372036854775808≤(i:Int) + 1∧_ by omega),aR (show -9223372036854775808≤(i:Int) + 2∧_ by omega),show (i:Int) + 1=((i + 1:Nat):Int) by omega,show (i:Int) + 2=((i + 2:Nat):Int) by omega,gL l (i + 1) 4 (by decide),aC]
    unfold kD
    cases h2:isT 4 [123] (tks l (i + 1))
    · simp only [Bool.false_eq_true,if_false,if_neg (dP _)]
      rw [eN (by omega),aC,mF (by omega)]
    · have hlt2:=cV h2
      simp only [if_true,cF]
      rw [N2 l (i + 2) hs (by omega),aC]
      have hf:bH (tks l (i + 2)) (if isT 4 [125] (tks l (i + 2)) then .ok [] (tks l (i + 2)) else nN [] (tks l (i + 2)):Pr (List aJ)) (fun m=>Sml m) 0:=by
        split
        · refine bH.okI (b7 _) (by simp) ⟨by simp,fun p hp=>by cases hp⟩
        · have hf2:=yB ((tks l (i + 2)).length + 1) [] (tks l (i + 2)) (by omega)
          refine ⟨hf2.er,fun a u he=>?_⟩
          obtain ⟨k1,k2,_⟩:=hf2.ok a u he
          have k3:=Fb _ _ _ _ _ he (fun p hp=>by cases hp) (PZ hs (i + 2))
          refine ⟨by omega,k2,?_,?_⟩
          · have:=k3.1; rw [yQ] at this; simp only [List.length_nil] at this; omega
          · intro p hp; have:=k3.2 p hp; omega
      rcases hf.toks (by omega) with ⟨e,m,hr,h3,h4,h0,_⟩ | ⟨p,m,hr,h3,h4,hq⟩
      · rw [hr,dS h4]
        simp only [if_neg h0]
      · rw [hr,eV h4]
        simp only [if_true]
        have hend:isT 4 [125] (tks l m)=true:=by
          split at hr
          · rename_i hb
            simp only [Pr.ok.injEq] at hr
            rw [← hr.2]; exact hb
          · exact Ak _ _ _ _ _ hr
        have hm:=cV hend
        rw [HA p hq,aC]
        unfold w7
        by_cases h0:(eU p).2=0
        · rw [if_pos h0,if_pos h0,Bi _ (by have:=@GT p; have:=hq.1; omega),aC,bE]
          cases h5:(eU p).1.any fun q=>mI q.1
          · simp only [Bool.not_false,aV,if_true,h0,Bool.false_eq_true,if_false]
            rw [aR (by omega),cF,eV (by omega)]; rfl
          · simp only [Bool.not_true,bB,if_true]
            rw [if_neg (by decide),if_pos h0,dS h4]; rfl
        · rw [if_neg h0,if_neg h0,if_neg h0,dS h4]
theorem GM (l:List aK) (i:Nat) (hs:SmT l) (hN:l.length≤100000):jL l (i:Int)=some (vT l zR (mE (tks l i))):=by
  have hl:=hs.1
  unfold jL
  rw [gL l i 1 (by decide),aC]
  unfold mE
  simp only [aQ,aM,bE,bC,lD]
  cases h:isT 1 [114,117,108,101] (tks l i)
  · have h':isT 1 m5 (tks l i)=false:=h
    simp only [h',Bool.false_eq_true,if_false,if_neg (dP _)]
    rw [DP,aC]; rfl
  · have h':isT 1 m5 (tks l i)=true:=h
    have hlt:=cV h
    simp only [h',if_true,cF]
    rw [aR (show -9223372036854775808≤(i:Int) + 1∧_ by omega),aR (show -9223372036854775808≤(i:Int) + 2∧_ by omega),aR (show -9223372036854775808≤(i:Int) + 3∧_ by omega),show (i:Int) + 1=((i + 1:Nat):Int) by omega,show (i:Int) + 2=((i + 2:Nat):Int) by omega,show (i:Int) + 3=((i + 3:Nat):Int) by omega]
    rw [DE l _ hs,aC]
    by_cases h0:(iP (tks l (i + 1))).err=0
    · obtain ⟨hlt2,e⟩:=D3 h0
      rw [if_pos h0,e]
      simp only
      rw [gL l (i + 2) 4 (by decide),aC]
      cases h2:isT 4 [58] (tks l (i + 2))
      · have h2':isT 4 [58] (tks l (i + 1 + 1))=false:=h2
        simp only [h2',Bool.false_eq_true,if_false,if_neg (dP _)]
        rw [eN (by omega),aC]
        exact congrArg some (mF (show i + 1 + 1≤l.length by omega)).symm
      · have h2':isT 4 [58] (tks l (i + 1 + 1))=true:=h2
        have hlt3:=cV h2
        simp only [h2',if_true,cF]
        rw [OW l (i + 3) hs (by omega),aC]
        show _=some (vT l zR (match sQ (tks l (i + 3)) with
          | .er u e=>.er u e
          | .ok x t2=>sU (nth l (i + 1)).S x t2))
        rcases (show bH (tks l (i + 3)) (sQ (tks l (i + 3))) _ _ from nU 32 _).toks (by omega) with ⟨e,m,hr,h5,h6,h0,_⟩ | ⟨x,m,hr,h5,h6,hq⟩ <;> rw [hr]
        · rw [dS h6]
          simp only [if_neg h0]
          rw [dS h6]
        · rw [eV h6]
          simp only [if_true]
          unfold sU
          generalize hnm:(nth l (i + 1)).S=nm
          rw [BI l m _ (by decide) hs h6,aC]
          show _=some (vT l zR (match q9 [102,111,114] (tks l m) with
            | .er u e=>.er u e
            | .ok fr t1=>match q9 gT t1 with
              | .er u e=>.er u e
              | .ok kp t2=>match jP t2 with
                | .er u e=>.er u e
                | .ok l t3=>if isT 4 [59] t3 then .ok ⟨nm,x,fr,kp,l⟩ t3.tail else wr t3))
          rcases (wP [102,111,114] (tks l m)).toks h6 with ⟨e,m1,hr1,g1,g2,h0,_⟩ | ⟨fr,m1,hr1,g1,g2,_⟩ <;> rw [hr1]
          · rw [dS g2]
            simp only [if_neg h0]
            rw [dS g2]
          · rw [eV g2]
            simp only [if_true]
            rw [BI l m1 _ (by decide) hs g2,aC]
            show _=some (vT l zR (match q9 [107,101,101,112] (tks l m1) with
              | .er u e=>.er u e
              | .ok kp t2=>match jP t2 with
                | .er u e=>.er u e
                | .ok l t3=>if isT 4 [59] t3 then .ok ⟨nm,x,fr,kp,l⟩ t3.tail else wr t3))
            rcases (wP [107,101,101,112] (tks l m1)).toks g2 with ⟨e,m2,hr2,g3,g4,h0,_⟩ | ⟨kp,m2,hr2,g3,g4,_⟩ <;> rw [hr2]
            · rw [dS g4]
              simp only [if_neg h0]
              rw [dS g4]
            · rw [eV g4]
              simp only [if_true]
              rw [MU l m2 hs g4 hN,aC]
              rcases (BV (tks l m2)).toks g4 with ⟨e,m3,hr3,g5,g6,h0,_⟩ | ⟨lb,m3,hr3,g5,g6,_⟩ <;> rw [hr3]
              · rw [dS g6]
                simp only [if_neg h0]
                rw [dS g6]
              · rw [eV g6]
                simp only [if_true]
                rw [gL l m3 4 (by decide),aC]
                cases h7:isT 4 [59] (tks l m3)
                · simp only [Bool.false_eq_true,if_false,if_neg (dP _)]
                  rw [eN g6,aC,mF g6]
                · have hlt7:=cV h7
                  simp only [if_true,cF]
                  rw [a7 (bQ hlt2),hnm,aR (by omega),eV (by omega)]; rfl
    · rw [if_neg h0]
      rw [eN (by omega),aC,DN h0]
      exact congrArg some (dS (show i + 1≤l.length by omega)).symm
end Go.Proofs.YtgkmbhllcekagaaGreatDoor.AM
/- What is printed. -/
namespace Go.Proofs.YtgkmbhllcekagaaGreatDoor.AM
open Go
open Go.Lib (decDigits)
theorem gV {s:Str} (h:b9 s=true):s.length≤64:=by
  obtain ⟨c,w,rfl,_,_,h4⟩:=C8 h
  simp only [List.length_cons]; omega
theorem AA {m:a8} (h:mOk m=true):(matchS m).length≤200:=by
  simp only [mOk,Bool.and_eq_true,decide_eq_true_eq] at h
  have h1:=gV h.1
  have h2:=w4 m.Value
  unfold matchS
  simp only [List.length_append]
  have:(if m.Not=true then ([33,61]:Str) else [61]).length≤2:=by split <;> simp
  omega
def zB (s:bM):Str:=if jE s then selS s else []
theorem uM {s:bM} (h:jE s=true):b9 s.Name=true∧s.M.length≤8∧∀ m ∈ s.M,mOk m=true:=by
  simp only [jE,Bool.and_eq_true,decide_eq_true_eq,List.all_eq_true] at h
  exact ⟨h.1.1,h.1.2,h.2⟩
theorem JG (s:bM):tA s=some (zB s):=by
  unfold tA zB
  rw [CY,aC]
  simp only [aQ,eW,bE,aM,bC]
  cases h:jE s
  · rfl
  obtain ⟨h1,h2,h3⟩:=uM h
  have hn:=gV h1
  simp only [aV,if_true]
  unfold selS
  by_cases hM:s.M=[]
  · rw [if_pos (by rw [hM]; rfl),if_pos hM,List.append_nil]
  · have hpos:0 < s.M.length:=List.length_pos_iff.2 hM
    rw [if_neg (by omega),if_neg hM]
    refine (ME s.M.length (fun i t=>t.length≤64 + 201 * i) (fun i t=>t ++ selM (if i=0 then 123 else 44) (s.M.drop i) ++ [125]) ?_ ?_ (by omega)).trans (by simp)
    · intro i t hi ht
      right
      have hm:=h3 _ (iI hi)
      have hl:=AA hm
      have hm':=hm
      simp only [mOk,Bool.and_eq_true,decide_eq_true_eq] at hm'
      have hnl:=gV hm'.1
      have hq:=w4 (nth s.M i).Value
      rw [if_pos (by simp only; omega),a7 (bQ hi),eF hi]
      simp only [BR _ (show (nth s.M i).Value.length≤1000000 by omega),aC]
      simp only [selM]
      rw [aR (show -9223372036854775808≤(i:Int) + 1∧_ by omega),show (i:Int) + 1=((i + 1:Nat):Int) by omega]
      have fin:∀ (b:UInt8) (y:Str),y=b :: matchS (nth s.M i)→(if i=0 then 123 else 44)=b→∃ a',(some (Sum.inl (((i + 1:Nat):Int),t ++ y)):Option ((Int × Str) ⊕ Str))=some (Sum.inl (((i + 1:Nat):Int),a'))∧a'.length≤64 + 201 * (i + 1) ∧
          a' ++ selM (if i + 1=0 then 123 else 44) (s.M.drop (i + 1)) ++ [125]=t ++ (if i=0 then 123 else 44) :: (matchS (nth s.M i) ++ selM 44 (s.M.drop (i + 1))) ++ [125]:=by
        intro b y hy hb
        refine ⟨_,rfl,?_,?_⟩
        · rw [hy,List.length_append,List.length_cons]; omega
        · rw [hy,hb,if_neg (by omega)]; simp
      by_cases h0:i=0
      · rw [if_pos (by omega)]
        cases hnt:(nth s.M i).Not
        · rw [bB,aN (by simp; omega),aN (by simp; omega),aN (by simp; omega),aN (by simp; omega)]
          exact fin 123 _ (by simp [matchS,hnt]) (if_pos h0)
        · rw [aV,aN (by simp; omega),aN (by simp; omega),aN (by simp; omega),aN (by simp; omega)]
          exact fin 123 _ (by simp [matchS,hnt]) (if_pos h0)
      · rw [if_neg (by omega)]
        cases hnt:(nth s.M i).Not
        · rw [bB,aN (by simp; omega),aN (by simp; omega),aN (by simp; omega),aN (by simp; omega)]
          exact fin 44 _ (by simp [matchS,hnt]) (if_neg h0)
        · rw [aV,aN (by simp; omega),aN (by simp; omega),aN (by simp; omega),aN (by simp; omega)]
          exact fin 44 _ (by simp [matchS,hnt]) (if_neg h0)
    · intro t ht
      rw [if_neg (by simp only; omega)]
      rw [aN (by simp; omega)]
      simp [selM]
theorem FC (s:bM) (hs:II s):oY s=some (zB s):=by
  unfold oY zB
  rw [Bl s hs,aC]
  simp only [aQ,eW,bE,aM,bC]
  cases h:jE s
  · rfl
  obtain ⟨h1,h2,h3⟩:=uM h
  have hn:=gV h1
  simp only [aV,if_true]
  refine (fH s.M.length (fun i t=>t.length≤64 + 201 * i) (fun i t=>t ++ selM (if i=0 then 123 else 44) (s.M.drop i) ++ if s.M=[] then [] else [125]) ?_ ?_ (by omega)).trans ?_
  · intro i t hi ht
    right
    have hm:=h3 _ (iI hi)
    have hl:=AA hm
    have hm':=hm
    simp only [mOk,Bool.and_eq_true,decide_eq_true_eq] at hm'
    have hnl:=gV hm'.1
    have hq:=w4 (nth s.M i).Value
    rw [if_pos (by simp only; omega),eF hi]
    simp only [a7 (bQ hi),zJ _ (show (nth s.M i).Value.length≤1000000 by omega),aC]
    simp only [selM]
    rw [aR (show -9223372036854775808≤(i:Int) + 1∧_ by omega),show (i:Int) + 1=((i + 1:Nat):Int) by omega]
    have fin:∀ (b:UInt8) (y:Str),y=t ++ b :: matchS (nth s.M i)→(if i=0 then 123 else 44)=b→∃ a',(some (Sum.inl (y,((i + 1:Nat):Int))):Option ((Str × Int) ⊕ Str))=some (Sum.inl (a',((i + 1:Nat):Int)))∧a'.length≤64 + 201 * (i + 1) ∧
        (a' ++ selM (if i + 1=0 then 123 else 44) (s.M.drop (i + 1)) ++ if s.M=[] then [] else [125])=t ++ (if i=0 then 123 else 44) :: (matchS (nth s.M i) ++ selM 44 (s.M.drop (i + 1))) ++ if s.M=[] then [] else [125]:=by
      intro b y hy hb
      refine ⟨_,rfl,?_,?_⟩
      · rw [hy,List.length_append,List.length_cons]; omega
      · rw [hy,hb,if_neg (show ¬ i + 1=0 by omega)]; simp
    by_cases h0:i=0
    · rw [if_pos (by omega)]
      cases hnt:(nth s.M i).Not
      · rw [bB,aN (by simp; omega),aN (by simp; omega),aN (by simp; omega),aN (by simp; omega)]
        exact fin 123 _ (by simp [matchS,hnt]) (if_pos h0)
      · rw [aV,aN (by simp; omega),aN (by simp; omega),aN (by simp; omega),aN (by simp; omega),aN (by simp; omega)]
        exact fin 123 _ (by simp [matchS,hnt]) (if_pos h0)
    · rw [if_neg (by omega)]
      cases hnt:(nth s.M i).Not
      · rw [bB,aN (by simp; omega),aN (by simp; omega),aN (by simp; omega),aN (by simp; omega)]
        exact fin 44 _ (by simp [matchS,hnt]) (if_neg h0)
      · rw [aV,aN (by simp; omega),aN (by simp; omega),aN (by simp; omega),aN (by simp; omega),aN (by simp; omega)]
        exact fin 44 _ (by simp [matchS,hnt]) (if_neg h0)
  · intro t ht
    rw [if_neg (by simp only; omega)]
    by_cases hM:s.M=[]
    · rw [if_neg (by rw [hM]; decide),if_pos hM,hM]; simp [selM]
    · have hpos:0 < s.M.length:=List.length_pos_iff.2 hM
      rw [if_pos (by omega),if_neg hM,aN (by simp; omega)]
      simp [selM]
  · unfold selS
    by_cases hM:s.M=[]
    · simp [hM,selM]
    · simp [hM]
theorem JI:∀ (ms:List a8) (b:UInt8),(∀ m ∈ ms,mOk m=true)→(selM b ms).length≤201 * ms.length
  | [],b,_=>by simp [selM]
  | m :: ms,b,h=>by
    unfold selM
    have h1:=AA (h m (by simp))
    have h2:=JI ms 44 (fun x hx=>h x (by simp [hx]))
    simp only [List.length_cons,List.length_append]; omega
theorem D6 {s:bM} (h:jE s=true):(selS s).length≤2000:=by
  obtain ⟨h1,h2,h3⟩:=uM h
  have:=gV h1
  have:=JI s.M 123 h3
  unfold selS
  split
  · simp; omega
  · simp only [List.length_append,List.length_singleton]; omega
theorem AF (v:Int):(printN v).length≤31:=by
  unfold printN
  split
  · rename_i h
    have hv:=lX.1 h
    have:=Ew (show v.natAbs≤9007199254740992 by omega)
    split
    · simp only [List.length_cons]; omega
    · omega
  · simp
theorem Cg (k:Int):(signS k).length≤2:=by
  unfold signS
  repeat' split
  all_goals simp
def zK (x:bF):Str:=if gP x then condS x else []
theorem sS {x:bF} (h:gP x=true):jE x.S=true∧(1≤x.Op∧x.Op≤6)∧m0 x.V=true:=by
  simp only [gP,Bool.and_eq_true,decide_eq_true_eq] at h
  exact ⟨h.1.1,h.1.2,h.2⟩
theorem BS {x:bF} (h:gP x=true):(condS x).length≤2100:=by
  obtain ⟨h1,_,_⟩:=sS h
  have:=D6 h1
  have:=AF x.V
  have:=Cg x.Op
  unfold condS
  simp only [List.length_append,List.length_cons]; omega
theorem Ly {k:Int} (h:1≤k∧k≤6):gl0[k.toNat]?=some (signS k)∧([[62],[62,61],[60],[60,61],[61,61],[33,61]]:List Str)[(k - 1).toNat]?=some (signS k):=by
  have:k=1 ∨ k=2 ∨ k=3 ∨ k=4 ∨ k=5 ∨ k=6:=by omega
  rcases this with rfl | rfl | rfl | rfl | rfl | rfl <;> exact ⟨rfl,rfl⟩
theorem HQ (x:bF):rR x=some (zK x):=by
  unfold rR zK
  rw [Ck,aC]
  simp only [aQ,eW,bE,bC]
  cases h:gP x
  · rfl
  obtain ⟨h1,h2,h3⟩:=sS h
  have l1:=D6 h1
  have l2:=AF x.V
  have l3:=Cg x.Op
  simp only [aV,if_true]
  rw [JG,aC]
  unfold zB
  rw [if_pos h1,aN (by simp; omega),cU (by omega) (Ly h2).1,aN (by simp; omega),aN (by simp; omega),JB,aC,aN (by simp; omega)]
  simp [condS]
theorem FZ (x:bF) (hs:II x.S):oW x=some (zK x):=by
  unfold oW zK
  rw [Be x hs,aC]
  simp only [aQ,eW,bE,bC]
  cases h:gP x
  · rfl
  obtain ⟨h1,h2,h3⟩:=sS h
  have l1:=D6 h1
  have l2:=AF x.V
  have l3:=Cg x.Op
  simp only [aV,if_true]
  rw [FC _ hs,aC]
  unfold zB
  rw [if_pos h1,aN (by simp; omega),show mT=some [[62],[62,61],[60],[60,61],[61,61],[33,61]] from rfl,aC,aR (by omega),cU (by omega) (Ly h2).2,aN (by simp; omega),aN (by simp; omega),FD,aC,aN (by simp; omega)]
  simp [condS]
theorem C1:∀ (j i d:Nat),i + j=5→d≤9007199254740992→(eB (dH.drop i) d).length≤22 * j
  | 0,i,d,hi,_=>by
    have:i=5:=by omega
    subst this; simp [dH,eB]
  | j + 1,i,d,hi,hd=>by
    obtain ⟨n,k,hu,hdr,hk,_⟩:=wR i (by omega)
    rw [hdr]
    unfold eB
    have hq:d / k≤9007199254740992:=Nat.le_trans (Nat.div_le_self d k) hd
    have hm:d % k≤9007199254740992:=Nat.le_trans (Nat.mod_le d k) hd
    have h1:=C1 j (i + 1) (d % k) (by omega) hm
    have h2:=Cc hq
    have hn:n.length≤2:=by
      have:i=0 ∨ i=1 ∨ i=2 ∨ i=3 ∨ i=4:=by omega
      rcases this with rfl | rfl | rfl | rfl | rfl <;> cases hu <;> decide
    rw [List.length_append]
    split
    · rw [List.length_append]; omega
    · simp only [List.length_nil]; omega
theorem q7 (v:Int):(printD v).length≤110:=by
  unfold printD
  split
  · rename_i h
    have hv:=oD.1 h
    split
    · simp
    · have:=C1 5 0 v.toNat rfl (by omega)
      rw [List.drop_zero] at this; omega
  · simp
theorem rZ {w:Str} (d:Int) (h:w.length≤10):(optS w d).length≤130:=by
  unfold optS
  have:=q7 d
  split
  · simp only [List.length_cons,List.length_append]; omega
  · simp
theorem BX {p:aJ} (h:b9 p.1=true∧p.2.length≤64):p.1.length≤64∧(cN p.2).length≤130:=by
  have:=gV h.1
  have:=w4 p.2
  omega
theorem JU:∀ (ps:List aJ) (b:Str),b.length≤10→(∀ p ∈ ps,b9 p.1=true∧p.2.length≤64)→(labM b ps).length≤210 * ps.length
  | [],b,_,_=>by simp [labM]
  | p :: ps,b,hb,h=>by
    unfold labM
    have h1:=BX (h p (by simp))
    have h2:=JU ps [44] (by simp) (fun x hx=>h x (by simp [hx]))
    simp only [List.length_cons,List.length_append]; omega
theorem Cy {l:List aJ} (h:gE l=true):l.length≤16∧∀ p ∈ l,b9 p.1=true∧p.2.length≤64:=by
  have:=s6.1 h
  exact ⟨this.1,fun p hp=>⟨this.2.1 p hp,this.2.2.1 p hp⟩⟩
def AW:Str:=[32,108,97,98,101,108,115,32,123]
theorem GA {l:List aJ} (h:l ≠ []):labS l=labM AW l ++ [125]:=by
  unfold labS; rw [if_neg h]; rfl
def jH (r:aZ):Str:=if dB r then ruleS r else []
theorem oV {r:aZ} (h:dB r=true):b9 r.Name=true∧gP r.E=true∧tmB r.For=true∧tmB r.Keep=true∧ED r.Labels:=by
  simp only [dB,Bool.and_eq_true,Bool.not_eq_true'] at h
  obtain ⟨⟨⟨⟨⟨h1,h2⟩,h3⟩,h4⟩,h5⟩,h6⟩:=h
  exact ⟨h1,h2,h3,h4,h5,h6⟩
theorem Pk {l:List aJ} (h:gE l=true):(labS l).length≤3400:=by
  obtain ⟨h1,h2⟩:=Cy h
  by_cases h0:l=[]
  · subst h0; simp [labS]
  · rw [GA h0,List.length_append]
    have:=JU l AW (by decide) h2
    simp only [List.length_singleton]; omega
theorem NK {r:aZ} (h:dB r=true):(ruleS r).length≤6000:=by
  obtain ⟨h1,h2,h3,h4,h5⟩:=oV h
  have l1:=gV h1
  have l2:=BS h2
  have l3:=rZ (w:=iJ) r.For (by decide)
  have l4:=rZ (w:=gT) r.Keep (by decide)
  have l5:=Pk h5.1
  unfold ruleS
  have:m5.length=4:=rfl
  simp only [List.length_append,List.length_cons,List.length_nil]; omega
theorem eJ (r:aZ):dQ r=some (jH r):=by
  unfold dQ jH
  rw [gA,aC]
  simp only [aQ,eW,bE,aM,bC]
  cases h:dB r
  · rfl
  obtain ⟨h1,h2,h3,h4,h5⟩:=oV h
  have l1:=gV h1
  have l2:=BS h2
  have l3:=rZ (w:=iJ) r.For (by decide)
  have l4:=rZ (w:=gT) r.Keep (by decide)
  have d1:=q7 r.For
  have d2:=q7 r.Keep
  simp only [aV,if_true]
  rw [aN (by simp; omega),aN (by simp; omega),HQ,aC]
  have hE:zK r.E=condS r.E:=if_pos h2
  rw [hE,aN (by simp; omega)]
  generalize hA:(([114,117,108,101,32]:Str) ++ r.Name ++ [58,32] ++ condS r.E)=A
  have lA:A.length≤2200:=by rw [← hA]; simp only [List.length_append,List.length_cons,List.length_nil]; omega
  have jn:∀ (B:Str) (w w2:Str) (d:Int),w2=32 :: (w ++ [32])→w2.length≤10→B.length≤3000→(printD d).length≤110→(if 0 < d then aI vS (fun x9=>[.box [vS r.Name,vS r.E.S.Name,sl aB r.E.S.M,vI r.E.Op,vI r.E.V,vI r.For,vI r.Keep,sl aD r.Labels]]) (nM d) fun x9=>
      gdM (w2.length + x9.length≤9223372036854775807) (gdM (B.length + (w2 ++ x9).length≤9223372036854775807) (aU (B ++ (w2 ++ x9)))) else aU B)=(some (Sum.inl (B ++ optS w d)):Option (Str ⊕ Str)):=by
    intro B w w2 d hw hl hB hd
    unfold optS
    by_cases h0:0 < d
    · rw [if_pos h0,if_pos h0,JO,aC,aN (by omega),aN (by rw [List.length_append]; omega),hw]
      simp
    · rw [if_neg h0,if_neg h0]; simp
  refine lF (jn A iJ [32,102,111,114,32] r.For rfl (by decide) (by omega) d1) ?_
  refine lF (jn (A ++ optS iJ r.For) gT [32,107,101,101,112,32] r.Keep rfl (by decide) (by rw [List.length_append]; omega) d2) ?_
  generalize hC:A ++ optS iJ r.For ++ optS gT r.Keep=C
  have lC:C.length≤2600:=by rw [← hC]; simp only [List.length_append]; omega
  have hR:ruleS r=C ++ (labS r.Labels ++ [59]):=by
    rw [← hC,← hA]; unfold ruleS m5; simp
  rw [hR]
  obtain ⟨k1,k2⟩:=Cy h5.1
  by_cases hL:r.Labels=[]
  · rw [if_neg (by rw [hL]; decide),aN (by simp; omega),hL]; rfl
  · have hpos:0 < r.Labels.length:=List.length_pos_iff.2 hL
    rw [if_pos (by omega),aN (by simp; omega),GA hL]
    refine (fH r.Labels.length (fun i t=>t.length≤2700 + 210 * i) (fun i t=>t ++ labM (if i=0 then [] else [44]) (r.Labels.drop i) ++ [125,59]) ?_ ?_ (by simp; omega)).trans ?_
    · intro i t hi ht
      right
      obtain ⟨p1,p2⟩:=BX (k2 _ (iI hi))
      have pv:=(k2 _ (iI hi)).2
      rw [if_pos (by simp only; omega),a7 (bQ hi),eF hi]
      simp only [BR _ (show (nth r.Labels i).Value.length≤1000000 by have:(nth r.Labels i).2.length≤64:=pv; omega),aC]
      simp only [labM]
      rw [aR (show -9223372036854775808≤(i:Int) + 1∧_ by omega),show (i:Int) + 1=((i + 1:Nat):Int) by omega]
      have fin:∀ (b:Str) (y:Str),y=t ++ (b ++ ((nth r.Labels i).1 ++ (61 :: cN (nth r.Labels i).2)))→(if i=0 then [] else [44])=b→b.length≤1→∃ a',(some (Sum.inl (y,((i + 1:Nat):Int))):Option ((Str × Int) ⊕ Str))=some (Sum.inl (a',((i + 1:Nat):Int)))∧a'.length≤2700 + 210 * (i + 1) ∧
          a' ++ labM (if i + 1=0 then [] else [44]) (r.Labels.drop (i + 1)) ++ [125,59]=t ++ ((if i=0 then [] else [44]) ++ ((nth r.Labels i).1 ++ (61 :: (cN (nth r.Labels i).2 ++ labM [44] (r.Labels.drop (i + 1)))))) ++ [125,59]:=by
        intro b y hy hb hbl
        refine ⟨_,rfl,?_,?_⟩
        · rw [hy]; simp only [List.length_append,List.length_cons]; omega
        · rw [hy,hb,if_neg (show ¬ i + 1=0 by omega)]; simp
      by_cases h0:i=0
      · rw [if_neg (by omega),aN (by simp; omega),aN (by simp; omega),aN (by simp; omega)]
        exact fin [] _ (by simp) (if_pos h0) (by simp)
      · rw [if_pos (by omega),aN (by simp; omega),aN (by simp; omega),aN (by simp; omega),aN (by simp; omega)]
        exact fin [44] _ (by simp) (if_neg h0) (by simp)
    · intro t ht
      rw [if_neg (by simp only; omega),aN (by simp; omega),aN (by simp; omega)]
      simp [labM]
    · rcases hl2:r.Labels with _ | ⟨p,ps⟩
      · exact absurd hl2 hL
      · simp [labM,AW]
theorem Gr (r:aZ) (hs:Bs r):oT r=some (jH r):=by
  unfold oT jH
  rw [Bh r hs,aC]
  simp only [aQ,eW,bE,aM,bC]
  cases h:dB r
  · rfl
  obtain ⟨h1,h2,h3,h4,h5⟩:=oV h
  have l1:=gV h1
  have l2:=BS h2
  have l3:=rZ (w:=iJ) r.For (by decide)
  have l4:=rZ (w:=gT) r.Keep (by decide)
  have d1:=q7 r.For
  have d2:=q7 r.Keep
  simp only [aV,if_true]
  rw [aN (by simp; omega),aN (by simp; omega),FZ _ hs.2.1,aC]
  have hE:zK r.E=condS r.E:=if_pos h2
  rw [hE,aN (by simp; omega)]
  generalize hA:(([114,117,108,101,32]:Str) ++ r.Name ++ [58,32] ++ condS r.E)=A
  have lA:A.length≤2200:=by rw [← hA]; simp only [List.length_append,List.length_cons,List.length_nil]; omega
  have jn:∀ (B:Str) (w w2:Str) (d:Int),w2=32 :: (w ++ [32])→w2.length≤10→B.length≤3000→(printD d).length≤110→(if 0 < d then gdM (B.length + w2.length≤9223372036854775807) (aI vS (fun x9=>[.box [vS r.Name,vS r.E.S.Name,sl aB r.E.S.M,vI r.E.Op,vI r.E.V,vI r.For,vI r.Keep,sl aD r.Labels]]) (lE d) fun x9=>
      gdM ((B ++ w2).length + x9.length≤9223372036854775807) (aU (B ++ w2 ++ x9))) else aU B)=(some (Sum.inl (B ++ optS w d)):Option (Str ⊕ Str)):=by
    intro B w w2 d hw hl hB hd
    unfold optS
    by_cases h0:0 < d
    · rw [if_pos h0,if_pos h0,aN (by omega),Gv,aC,aN (by rw [List.length_append]; omega),hw]
      simp
    · rw [if_neg h0,if_neg h0]; simp
  refine lF (jn A iJ [32,102,111,114,32] r.For rfl (by decide) (by omega) d1) ?_
  refine lF (jn (A ++ optS iJ r.For) gT [32,107,101,101,112,32] r.Keep rfl (by decide) (by rw [List.length_append]; omega) d2) ?_
  generalize hC:A ++ optS iJ r.For ++ optS gT r.Keep=C
  have lC:C.length≤2600:=by rw [← hC]; simp only [List.length_append]; omega
  have hR:ruleS r=C ++ (labS r.Labels ++ [59]):=by
    rw [← hC,← hA]; unfold ruleS m5; simp
  rw [hR]
  obtain ⟨k1,k2⟩:=Cy h5.1
  refine (fH r.Labels.length (fun i t=>t.length≤2700 + 210 * i) (fun i t=>t ++ labM (if i=0 then AW else [44]) (r.Labels.drop i) ++ (if r.Labels=[] then [59] else [125,59])) ?_ ?_ (by omega)).trans ?_
  · intro i t hi ht
    right
    obtain ⟨p1,p2⟩:=BX (k2 _ (iI hi))
    have pv:=(k2 _ (iI hi)).2
    rw [if_pos (by simp only; omega),eF hi]
    simp only [a7 (bQ hi),zJ _ (show (nth r.Labels i).Value.length≤1000000 by have:(nth r.Labels i).2.length≤64:=pv; omega),aC]
    simp only [labM]
    rw [aR (show -9223372036854775808≤(i:Int) + 1∧_ by omega),show (i:Int) + 1=((i + 1:Nat):Int) by omega]
    have fin:∀ (b:Str) (y:Str),y=t ++ (b ++ ((nth r.Labels i).1 ++ (61 :: cN (nth r.Labels i).2)))→(if i=0 then AW else [44])=b→b.length≤10→∃ a',(some (Sum.inl (y,((i + 1:Nat):Int))):Option ((Str × Int) ⊕ Str))=some (Sum.inl (a',((i + 1:Nat):Int)))∧a'.length≤2700 + 210 * (i + 1) ∧
        a' ++ labM (if i + 1=0 then AW else [44]) (r.Labels.drop (i + 1)) ++ (if r.Labels=[] then [59] else [125,59])=t ++ ((if i=0 then AW else [44]) ++ ((nth r.Labels i).1 ++ (61 :: (cN (nth r.Labels i).2 ++ labM [44] (r.Labels.drop (i + 1)))))) ++ (if r.Labels=[] then [59] else [125,59]):=by
      intro b y hy hb hbl
      refine ⟨_,rfl,?_,?_⟩
      · rw [hy]; simp only [List.length_append,List.length_cons]; omega
      · rw [hy,hb,if_neg (show ¬ i + 1=0 by omega)]; simp
    by_cases h0:i=0
    · rw [if_pos (by omega),aN (by simp; omega),aN (by simp; omega),aN (by simp; omega),aN (by simp; omega)]
      exact fin AW _ (by simp [AW]) (if_pos h0) (by decide)
    · rw [if_neg (by omega),aN (by simp; omega),aN (by simp; omega),aN (by simp; omega),aN (by simp; omega)]
      exact fin [44] _ (by simp) (if_neg h0) (by simp)
  · intro t ht
    rw [if_neg (by simp only; omega)]
    by_cases hL:r.Labels=[]
    · rw [if_neg (by rw [hL]; decide),if_pos hL,aN (by simp; omega),hL]; simp [labM]
    · have hpos:0 < r.Labels.length:=List.length_pos_iff.2 hL
      rw [if_pos (by omega),if_neg hL,aN (by simp; omega),aN (by simp; omega)]
      simp [labM]
  · by_cases hL:r.Labels=[]
    · simp [hL,labM,labS]
    · rw [GA hL]; simp [hL]
end Go.Proofs.YtgkmbhllcekagaaGreatDoor.AM
