/- A3 -/
import Derived.Scope
import Derived.Test.YthgenmkengbmmaaGreatDoorCA2
import Derived.ProofKit
import Derived.OpenShut
set_option linter.all false
namespace Go.Proofs.YthgenmkengbmmaaGreatDoor.AM
open Go
def gJ (ops:List Oper) (s:AS) (j:Nat) (want:Bool):Option Bool :=
 match ops[j]? with
 | some oj=>
  match oj.dst with
  | some d=>(match (s.tmps.getD d .any).boolUn with | some (g,b)=>some (g && (b == want)) | none=>none)
  | none=>none
 | none=>none
theorem qL [Df] {ops:List Oper}{s:AS}{o:Oper}{G:aL}{a:Act}{w:World}{j:Nat}{want g:Bool} (hg:o.guard=some (j,want)) (h:gJ ops s j want=some g) (hs:Sat G s a w) :
  Region.wanted o (yielded ops.toArray a.tmps)=g:=by
 unfold gJ at h
 split at h
 ·rename_i oj hj
  split at h
  ·rename_i d hd
   split at h
   ·rename_i c b hb
    cases h
    have hc:=hs.raw (.tmp d)
    simp only [AS.raw] at hc
    have hy:c=true→yielded ops.toArray a.tmps j=some b:=by
     intro hct
     have hv:=iR hb hc hct
     simp only [Act.eval] at hv
     have hlt:d < a.tmps.size:=by
      rcases Nat.lt_or_ge d a.tmps.size with hl | hl
      ·exact hl
      ·simp [Array.getD,Nat.not_lt.2 hl,undef] at hv
     have hget:a.tmps[d]?=some (.bool b):=by
      rw [Array.getElem?_eq_getElem hlt]
      simpa [Array.getD,hlt] using hv
     simp [yielded,hj,hd,hget]
    cases c
    ·have hn:yielded ops.toArray a.tmps j=none:=by
      unfold AV.boolUn at hb
      split at hb
      ·cases hb
      ·rename_i g' b' he
       cases hb
       rw [he] at hc
       have hu:a.eval (.tmp d)=undef:=by
        cases hc with
        | cnd _ _ _ _ h'=>exact h' rfl
       simp only [Act.eval] at hu
       rcases Nat.lt_or_ge d a.tmps.size with hl | hl
       ·have hget:a.tmps[d]?=some undef:=by
         rw [Array.getElem?_eq_getElem hl]
         simpa [Array.getD,hl] using hu
        simp [yielded,hj,hd,hget,undef]
       ·simp [yielded,hj,hd,Array.getElem?_eq_none hl]
      ·rename_i he
       cases hb
       rw [he] at hc
       have hu:a.eval (.tmp d)=undef:=by
        cases hc with
        | cnd _ _ _ _ h'=>exact h' rfl
       simp only [Act.eval] at hu
       rcases Nat.lt_or_ge d a.tmps.size with hl | hl
       ·have hget:a.tmps[d]?=some undef:=by
         rw [Array.getElem?_eq_getElem hl]
         simpa [Array.getD,hl] using hu
        simp [yielded,hj,hd,hget,undef]
       ·simp [yielded,hj,hd,Array.getElem?_eq_none hl]
      ·cases hb
     simp [Region.wanted,hg,hn]
    ·simp [Region.wanted,hg,hy rfl]
   ·cases h
  ·cases h
 ·cases h
def AV.split:AV→Bool × AV
 | .cnd g x=>(g,x)
 | x=>(true,x)
def Aa (op:BinOp) (q:IntKind) (a b:Int):Option Value :=
 match op with
 | .add=>some (.int q (q.wrap (a + b)))
 | .sub=>some (.int q (q.wrap (a - b)))
 | .eql=>some (.bool (decide (a=b)))
 | .neq=>some (.bool (!decide (a=b)))
 | .lss=>some (.bool (decide (a < b)))
 | .leq=>some (.bool (decide (a≤b)))
 | .gtr=>some (.bool (decide (b < a)))
 | .geq=>some (.bool (decide (b≤a)))
 | _=>none
def A0 (op:BinOp) (a b:ByteArray):Option Value :=
 match op with
 | .eql=>some (.bool (decide (a=b)))
 | .neq=>some (.bool (!decide (a=b)))
 | .lss=>some (.bool (j8 a b))
 | .leq=>some (.bool (!j8 b a))
 | .gtr=>some (.bool (j8 b a))
 | .geq=>some (.bool (!j8 a b))
 | _=>none
def CR (P:Program) (t:TypeId) (x:Bool × AV):Option (Bool × AV) :=
 match ti P t with
 | some i=>
  match i.desc,x with
  | .string,(g,.v (.string s))=>some (g,.v (.int .i64 s.size))
  | .slice _,(g,.sl rows _)=>some (g,.v (.int .i64 rows.length))
  | .slice _,(g,.v (.slice none 0 0))=>some (g,.v (.int .i64 0))
  | _,_=>none
 | none=>none
theorem G8 {P:Program}{t:TypeId}{x:Bool × AV}{g:Bool}{y:AV} (h:CR P t x=some (g,y)):x.1=g∧tW P t x.2 (fun r=>r=y):=by
 unfold CR at h
 unfold tW
 split at h
 ·rename_i i hi
  simp only [hi]
  split at h
  ·rename_i g' s hd
   simp only [Option.some.injEq,Prod.mk.injEq] at h
   simp only [hd]
   exact h
  ·rename_i e g' rows tk hd
   simp only [Option.some.injEq,Prod.mk.injEq] at h
   simp only [hd]
   exact ⟨h.1,fun _=>h.2⟩
  ·rename_i e g' hd
   simp only [Option.some.injEq,Prod.mk.injEq] at h
   simp only [hd]
   exact h
  ·cases h
 ·cases h
def dY (P:Program) (s:AS):Op→Option (Bool × AV)
 | .move x=>some ((s.raw x).split.1,(s.raw x).split.2)
 | .binOp op _ x y _=>
  match (s.raw x).split,(s.raw y).split with
  | (g,.v (.int q a)),(h,.v (.int q' b))=>if q=q' then (Aa op q a b).map fun r=>(g && h,.v r) else none
  | (g,.v (.string a)),(h,.v (.string b))=>(A0 op a b).map fun r=>(g && h,.v r)
  | _,_=>none
 | .unOp .not _ x=>(match (s.raw x).split with | (g,.v (.bool b))=>some (g,.v (.bool (!b))) | _=>none)
 | .pick c x y=>
  match (s.raw c).split,(s.raw x).boolUn,(s.raw y).boolUn with
  | (g,.v (.bool t)),some (h,p),some (i,q)=>some (g && (bif t then h else i),.v (.bool (bif t then p else q)))
  | _,_,_=>none
 | .call c=>
  match c.callee,c.args.toList,c.argTypes.toList with
  | .builtin .len,[x],[t]=>CR P t (s.raw x).split
  | _,_,_=>none
 | _=>none
theorem d9 {G:aL}{w:World}{x:AV}{v:Value} (h:aR G w x v) (hg:x.split.1=true):aR G w x.split.2 v:=by
 cases x with
 | cnd g y=>cases h with | cnd _ _ _ h _=>exact h hg
 | _=>exact h
theorem GZ {P:Program}{op:BinOp}{q:IntKind}{a b:Int}{r:Value} (h:Aa op q a b=some r) (k:Value→Prop) (hk:k r):Pl op q a b k:=by
 cases op <;> simp only [Aa] at h <;> first | (cases h; done) | (cases h; exact hk)
theorem Hy {op:BinOp}{a b:ByteArray}{r:Value} (h:A0 op a b=some r) (k:Value→Prop) (hk:k r):Pj op a b k:=by
 cases op <;> simp only [A0] at h <;> first | (cases h; done) | (cases h; exact hk)
theorem Ao [Df] {P:Program}{s:AS}{G:aL}{a:Act}{w:World}{op:Op}{g:Bool}{y:AV} (h:dY P s op=some (g,y)) (hs:Sat G s a w) (hg:g=true) {o:Oper} (ho:o.op=op)
  {next:Act→World→Prop}{Q:Exit→Act→World→Prop} (hk:∀ v,aR G w y v→next (a.put o.dst v) w):o.wp P a w next Q:=by
 unfold dY at h
 split at h
 ·rename_i x
  simp only [Option.some.injEq,Prod.mk.injEq] at h
  obtain ⟨h1,h2⟩:=h
  refine eW (x:=pure (a.eval x)) (by simp [execOp,ho]) rfl (hk _ ?_)
  rw [← h2]
  exact d9 (hs.raw x) (by rw [h1]; exact hg)
 ·rename_i bop t x z tz
  split at h
  ·rename_i gx q i gz q' j e1 e2
   split at h
   ·rename_i hq
    subst hq
    cases hr:Aa bop q i j with
    | none=>simp [hr] at h
    | some r=>
     simp only [hr,Option.map_some,Option.some.injEq,Prod.mk.injEq] at h
     obtain ⟨h1,h2⟩:=h
     rw [← h1,Bool.and_eq_true] at hg
     have k1:=d9 (hs.raw x) (by rw [e1]; exact hg.1)
     have k2:=d9 (hs.raw z) (by rw [e2]; exact hg.2)
     rw [e1] at k1; rw [e2] at k2
     have hbin:Bd bop (.int q i) (.int q j) (fun v=>v=r):=by
      have:=GZ (P:=P) hr (fun v=>v=r) rfl
      cases bop <;> first | exact ⟨rfl,this⟩ | (simp [Aa] at hr; done)
     have e3:=fP k1
     have e4:=fP k2
     obtain ⟨v,hv1,hv2,hv3⟩:=uC (P:=P) hbin t x z w
     refine eW (x:=(do eqGuard bop t x z (a.eval x) (a.eval z); binOp bop t (a.eval x) (a.eval z))) (by simp [execOp,ho]) (by rw [e3,e4]; exact hv1) (hk _ ?_)
     rw [← h2,← hv3]
     exact .v _ hv2
   ·cases h
  ·rename_i gx i gz j e1 e2
   cases hr:A0 bop i j with
   | none=>simp [hr] at h
   | some r=>
    simp only [hr,Option.map_some,Option.some.injEq,Prod.mk.injEq] at h
    obtain ⟨h1,h2⟩:=h
    rw [← h1,Bool.and_eq_true] at hg
    have k1:=d9 (hs.raw x) (by rw [e1]; exact hg.1)
    have k2:=d9 (hs.raw z) (by rw [e2]; exact hg.2)
    rw [e1] at k1; rw [e2] at k2
    have hbin:Bd bop (.string i) (.string j) (fun v=>v=r):=Hy hr (fun v=>v=r) rfl
    have e3:=fP k1
    have e4:=fP k2
    obtain ⟨v,hv1,hv2,hv3⟩:=uC (P:=P) hbin t x z w
    refine eW (x:=(do eqGuard bop t x z (a.eval x) (a.eval z); binOp bop t (a.eval x) (a.eval z))) (by simp [execOp,ho]) (by rw [e3,e4]; exact hv1) (hk _ ?_)
    rw [← h2,← hv3]
    exact .v _ hv2
  ·cases h
 ·rename_i t x
  split at h
  ·rename_i gx b e1
   simp only [Option.some.injEq,Prod.mk.injEq] at h
   obtain ⟨h1,h2⟩:=h
   have k1:=d9 (hs.raw x) (by rw [e1,h1]; exact hg)
   rw [e1] at k1
   have e3:=fP k1
   refine eW (x:=Op.unary .not (a.eval x)) (by simp [execOp,ho]) (by rw [e3]; rfl) (hk _ ?_)
   rw [← h2]
   exact .v _ rfl
  ·cases h
 ·rename_i c x z
  split at h
  ·rename_i gc t p1 p q1 q e1 e2 e3
   simp only [Option.some.injEq,Prod.mk.injEq] at h
   obtain ⟨h1,h2⟩:=h
   rw [← h1,Bool.and_eq_true] at hg
   have k1:=d9 (hs.raw c) (by rw [e1]; exact hg.1)
   rw [e1] at k1
   have hc:=fP k1
   refine eW (x:=pure (if t then a.eval x else a.eval z)) (by cases t <;> simp [execOp,ho,hc,asBool]) rfl (hk _ ?_)
   rw [← h2]
   cases t
   ·have:=iR e3 (hs.raw z) hg.2
    simp only [Bool.false_eq_true,if_false,cond_false]
    rw [this]; exact .v _ rfl
   ·have:=iR e2 (hs.raw x) hg.2
    simp only [if_true,cond_true]
    rw [this]; exact .v _ rfl
  ·cases h
 ·rename_i c
  split at h
  ·rename_i x t hce hca hct
   obtain ⟨k0,k1⟩:=G8 h
   have k2:=d9 (hs.raw x) (by rw [k0]; exact hg)
   obtain ⟨r,z,h1,h2,h3⟩:=Aw (P:=P) c.argTypes o.type k1 k2 (by rw [← Array.getElem?_toList,hct]; rfl)
   have hargs:c.args.map a.eval=#[a.eval x]:=by
    rw [← Array.toArray_toList (xs:=c.args),hca]; simp
   refine eW (x:=Builtin.len_ c.argTypes o.type #[a.eval x]) ?_ h1 (hk _ ?_)
   ·simp only [execOp,ho,resolve,hce,hargs]
    rfl
   ·rw [← h3]; exact h2
  ·cases h
 ·cases h
theorem TW [Df] {P:Program}{s:AS}{G:aL}{a:Act}{w:World}{op:Op}{g:Bool}{y:AV} (h:dY P s op=some (g,y)) (hs:Sat G s a w) (hg:g=true) {o:Oper} (ho:o.op=op)
  {next:Act→Prop} (hk:∀ v,aR G w y v→next (a.put o.dst v)):∃ u,(execOp a.eval o).run P w=.ok (.value u) w∧next (a.put o.dst u):=by
 unfold dY at h
 split at h
 ·rename_i x
  simp only [Option.some.injEq,Prod.mk.injEq] at h
  obtain ⟨h1,h2⟩:=h
  refine jS (x:=pure (a.eval x)) (by simp [execOp,ho]) rfl (hk _ ?_)
  rw [← h2]
  exact d9 (hs.raw x) (by rw [h1]; exact hg)
 ·rename_i bop t x z tz
  split at h
  ·rename_i gx q i gz q' j e1 e2
   split at h
   ·rename_i hq
    subst hq
    cases hr:Aa bop q i j with
    | none=>simp [hr] at h
    | some r=>
     simp only [hr,Option.map_some,Option.some.injEq,Prod.mk.injEq] at h
     obtain ⟨h1,h2⟩:=h
     rw [← h1,Bool.and_eq_true] at hg
     have k1:=d9 (hs.raw x) (by rw [e1]; exact hg.1)
     have k2:=d9 (hs.raw z) (by rw [e2]; exact hg.2)
     rw [e1] at k1; rw [e2] at k2
     have hbin:Bd bop (.int q i) (.int q j) (fun v=>v=r):=by
      have:=GZ (P:=P) hr (fun v=>v=r) rfl
      cases bop <;> first | exact ⟨rfl,this⟩ | (simp [Aa] at hr; done)
     have e3:=fP k1
     have e4:=fP k2
     obtain ⟨v,hv1,hv2,hv3⟩:=uC (P:=P) hbin t x z w
     refine jS (x:=(do eqGuard bop t x z (a.eval x) (a.eval z); binOp bop t (a.eval x) (a.eval z))) (by simp [execOp,ho]) (by rw [e3,e4]; exact hv1) (hk _ ?_)
     rw [← h2,← hv3]
     exact .v _ hv2
   ·cases h
  ·rename_i gx i gz j e1 e2
   cases hr:A0 bop i j with
   | none=>simp [hr] at h
   | some r=>
    simp only [hr,Option.map_some,Option.some.injEq,Prod.mk.injEq] at h
    obtain ⟨h1,h2⟩:=h
    rw [← h1,Bool.and_eq_true] at hg
    have k1:=d9 (hs.raw x) (by rw [e1]; exact hg.1)
    have k2:=d9 (hs.raw z) (by rw [e2]; exact hg.2)
    rw [e1] at k1; rw [e2] at k2
    have hbin:Bd bop (.string i) (.string j) (fun v=>v=r):=Hy hr (fun v=>v=r) rfl
    have e3:=fP k1
    have e4:=fP k2
    obtain ⟨v,hv1,hv2,hv3⟩:=uC (P:=P) hbin t x z w
    refine jS (x:=(do eqGuard bop t x z (a.eval x) (a.eval z); binOp bop t (a.eval x) (a.eval z))) (by simp [execOp,ho]) (by rw [e3,e4]; exact hv1) (hk _ ?_)
    rw [← h2,← hv3]
    exact .v _ hv2
  ·cases h
 ·rename_i t x
  split at h
  ·rename_i gx b e1
   simp only [Option.some.injEq,Prod.mk.injEq] at h
   obtain ⟨h1,h2⟩:=h
   have k1:=d9 (hs.raw x) (by rw [e1,h1]; exact hg)
   rw [e1] at k1
   have e3:=fP k1
   refine jS (x:=Op.unary .not (a.eval x)) (by simp [execOp,ho]) (by rw [e3]; rfl) (hk _ ?_)
   rw [← h2]
   exact .v _ rfl
  ·cases h
 ·rename_i c x z
  split at h
  ·rename_i gc t p1 p q1 q e1 e2 e3
   simp only [Option.some.injEq,Prod.mk.injEq] at h
   obtain ⟨h1,h2⟩:=h
   rw [← h1,Bool.and_eq_true] at hg
   have k1:=d9 (hs.raw c) (by rw [e1]; exact hg.1)
   rw [e1] at k1
   have hc:=fP k1
   refine jS (x:=pure (if t then a.eval x else a.eval z)) (by cases t <;> simp [execOp,ho,hc,asBool]) rfl (hk _ ?_)
   rw [← h2]
   cases t
   ·have:=iR e3 (hs.raw z) hg.2
    simp only [Bool.false_eq_true,if_false,cond_false]
    rw [this]; exact .v _ rfl
   ·have:=iR e2 (hs.raw x) hg.2
    simp only [if_true,cond_true]
    rw [this]; exact .v _ rfl
  ·cases h
 ·rename_i c
  split at h
  ·rename_i x t hce hca hct
   obtain ⟨k0,k1⟩:=G8 h
   have k2:=d9 (hs.raw x) (by rw [k0]; exact hg)
   obtain ⟨r,z,h1,h2,h3⟩:=Aw (P:=P) c.argTypes o.type k1 k2 (by rw [← Array.getElem?_toList,hct]; rfl)
   have hargs:c.args.map a.eval=#[a.eval x]:=by
    rw [← Array.toArray_toList (xs:=c.args),hca]; simp
   refine jS (x:=Builtin.len_ c.argTypes o.type #[a.eval x]) ?_ h1 (hk _ ?_)
   ·simp only [execOp,ho,resolve,hce,hargs]
    rfl
   ·rw [← h3]; exact h2
  ·cases h
 ·cases h
def dK (P:Program) (ops:List Oper) (s:AS) (o:Oper) (now:AS→Prop) (run skip:Prop):Prop :=
 match o.guard with
 | none=>run
 | some (j,want)=>
  match gJ ops s j want with
  | some g=>
   match dY P s o.op with
   | some (h,y)=>(g=true→h=true)∧now (s.put o.dst (.cnd g y))
   | none=>(g=true→run)∧(g=false→skip)
  | none=>False
def dB (P:Program) (ops:List Oper):List Oper→AS→(AS→Prop)→(AV→AS→Prop)→Prop
 | [],s,K,_=>K s
 | o :: rest,s,K,E=>dK P ops s o (fun s'=>dB P ops rest s' K E) (aop P o s (fun s'=>dB P ops rest s' K E) E) (dB P ops rest (s.put o.dst (.cnd false .any)) K E)
def f5 (P:Program) (ops:List Oper):List Oper→AS→(AS→Prop)→Prop
 | [],s,K=>K s
 | o :: rest,s,K=>isQ o.op=true∧dK P ops s o (fun s'=>f5 P ops rest s' K) (aop P o s (fun s'=>f5 P ops rest s' K) (fun _ _=>False)) (f5 P ops rest (s.put o.dst (.cnd false .any)) K)
theorem qW [Df] {P:Program}{ops:List Oper}{K:AS→Prop}{G:aL}{w:World}{Q:Act→Prop} (hQ:∀ s a,K s→Sat G s a w→Q a) :
  ∀ (l:List Oper) (s:AS) (a:Act),f5 P ops l s K→Sat G s a w→wpQuiet P ops.toArray (fun w'=>w'=w) Q l a
 | [],s,a,h,hs=>hQ s a h hs
 | o :: rest,s,a,h,hs=>by
  obtain ⟨hq,h⟩:=h
  have hquiet:∀ (Ks:AS→Prop),(∀ s' a',Ks s'→Sat G s' a' w→wpQuiet P ops.toArray (fun w'=>w'=w) Q rest a')→(∃ u,(execOp a.eval o).run P w=.ok (.value u) w∧Ly Ks G w (a.put o.dst u))→o.quiet P a (fun w'=>w'=w) (wpQuiet P ops.toArray (fun w'=>w'=w) Q rest):=by
   rintro Ks hKs ⟨u,h1,s',h2,h3⟩
   refine ⟨u,?_,hKs s' _ h2 h3⟩
   rintro w' rfl
   unfold Oper.quietAt
   rw [h1]
   exact ⟨rfl,rfl⟩
  have hrun:aop P o s (fun s'=>f5 P ops rest s' K) (fun _ _=>False)→o.quiet P a (fun w'=>w'=w) (wpQuiet P ops.toArray (fun w'=>w'=w) Q rest):=fun h=>
   hquiet _ (fun s' a' h1 h2=>qW hQ rest s' a' h1 h2) (H4 hq h hs)
  simp only [dK] at h
  unfold wpQuiet
  split at h
  ·rename_i hg
   rw [if_pos (by simp [Region.wanted,hg])]
   exact hrun h
  ·rename_i j want hg
   split at h
   ·rename_i g hgc
    have hw:=qL hg hgc hs
    rw [hw]
    split at h
    ·rename_i c y ht
     obtain ⟨hh,h⟩:=h
     cases g
     ·rw [if_neg (by simp)]
      exact qW hQ rest _ _ h (hs.put0 o.dst (.cnd _ _ _ (fun h=>by cases h) (fun _=>rfl)))
     ·rw [if_pos rfl]
      refine hquiet (fun s'=>f5 P ops rest s' K) (fun s' a' h1 h2=>qW hQ rest s' a' h1 h2) (TW ht hs (hh rfl) rfl fun v hv=>?_)
      exact ⟨_,h,hs.put0 o.dst (.cnd _ _ _ (fun _=>hv) (fun h=>by cases h))⟩
    ·obtain ⟨h1,h2⟩:=h
     cases g
     ·rw [if_neg (by simp)]
      exact qW hQ rest _ _ (h2 rfl) (hs.put0 o.dst (.cnd _ _ _ (fun h=>by cases h) (fun _=>rfl)))
     ·rw [if_pos rfl]
      exact hrun (h1 rfl)
   ·exact h.elim
structure dH [Df] (G0:aL) (w0:World) (G:aL) (s:AS) (a:Act) (w:World):Prop where
 step:bO G0 w0 G w
 sat:Sat G s a w
theorem kE [Df] {P:Program}{ops:List Oper}{G0:aL}{w0:World}{K:AS→Prop}{E:AV→AS→Prop}{Q:Exit→Act→World→Prop}{tl:List Oper}
  (hK:∀ s G a w,K s→dH G0 w0 G s a w→wpList P ops.toArray Q tl a w)
  (hE:∀ x s G v a w,E x s→dH G0 w0 G s a w→aR G w x v→Q (.panic [{ v,recovered:=false }]) a w) :
  ∀ (l:List Oper) (s:AS) (G:aL) (a:Act) (w:World),dB P ops l s K E→dH G0 w0 G s a w→wpList P ops.toArray Q (l ++ tl) a w
 | [],s,G,a,w,h,hf=>hK s G a w h hf
 | o :: rest,s,G,a,w,h,hf=>by
  refine wpList_step fun K' hK'=>?_
  have hrun:aop P o s (fun s'=>dB P ops rest s' K E) E→o.wp P a w K' Q:=by
   intro hrun
   have:=nA (Q:=Q) hrun hf.sat (fun x s' G' v w' h1 h2 h3 h4=>hE x s' G' v a w' h1 ⟨hf.step.trans h3,h2⟩ h4)
   unfold Oper.wp at this ⊢
   generalize (execOp a.eval o).run P w=r at this ⊢
   have hnext:∀ a' w',HS (fun s'=>dB P ops rest s' K E) G w a' w'→K' a' w':=by
    rintro a' w' ⟨s',G',h1,h2,h3⟩
    exact hK' a' w' (kE hK hE rest s' G' a' w' h1 ⟨hf.step.trans h3,h2⟩)
   cases r with
   | ok nx w'=>
    cases nx <;> simp only [Oper.upon] at this ⊢ <;> first | exact this | exact hnext _ _ this | skip
    ·refine this.mono ?_
     intro e w'' he
     cases e with
     | returned v=>exact hnext _ _ he
     | panicked chain=>exact he
     | outgrown=>exact he
    ·exact this.mono fun v w'' he=>hnext _ _ he
   | halt hh w'=>cases hh <;> simp only [Oper.upon] at this ⊢ <;> exact this
  simp only [dB,dK] at h
  split at h
  ·rename_i hg
   rw [if_pos (by simp [Region.wanted,hg])]
   exact hrun h
  ·rename_i j want hg
   split at h
   ·rename_i g hgc
    have hw:=qL hg hgc hf.sat
    rw [hw]
    split at h
    ·rename_i c y ht
     obtain ⟨hh,h⟩:=h
     cases g
     ·rw [if_neg (by simp)]
      exact hK' _ _ (kE hK hE rest _ G _ _ h ⟨hf.step,hf.sat.put0 o.dst (.cnd _ _ _ (fun h=>by cases h) (fun _=>rfl))⟩)
     ·rw [if_pos rfl]
      exact Ao ht hf.sat (hh rfl) rfl fun v hv=>hK' _ _ (kE hK hE rest _ G _ _ h ⟨hf.step,hf.sat.put0 o.dst (.cnd _ _ _ (fun _=>hv) (fun h=>by cases h))⟩)
    ·obtain ⟨h1,h2⟩:=h
     cases g
     ·rw [if_neg (by simp)]
      exact hK' _ _ (kE hK hE rest _ G _ _ (h2 rfl) ⟨hf.step,hf.sat.put0 o.dst (.cnd _ _ _ (fun h=>by cases h) (fun _=>rfl))⟩)
     ·rw [if_pos rfl]
      exact hrun (h1 rfl)
   ·exact h.elim
theorem PL [Df] {P:Program}{ops:List Oper}{G0:aL}{w0:World}{K:AS→Prop}{E:AV→AS→Prop}{Q:Exit→Act→World→Prop}
  (hK:∀ s G a w,K s→dH G0 w0 G s a w→Q .normal a w)
  (hE:∀ x s G v a w,E x s→dH G0 w0 G s a w→aR G w x v→Q (.panic [{ v,recovered:=false }]) a w)
  (l:List Oper) (s:AS) (G:aL) (a:Act) (w:World) (h:dB P ops l s K E) (hf:dH G0 w0 G s a w):wpList P ops.toArray Q l a w:=by
 have:=kE (tl:=[]) (Q:=Q) hK hE l s G a w h hf
 rwa [List.append_nil] at this
def YA (P:Program) (ops:Array Oper) (o:Oper) (s:AS) (y:AV):Prop :=
 match o.guard with
 | none=>aop P o (s.keep (o.looksAt ops)) (fun s1=>s1=(s.keep (o.looksAt ops)).put o.dst y) (fun _ _=>False)
 | some (j,want)=>∃ g v,y=.cnd g v∧gJ ops.toList (s.keep (o.looksAt ops)) j want=some g ∧
   ((g=true→aop P o (s.keep (o.looksAt ops)) (fun s1=>s1=(s.keep (o.looksAt ops)).put o.dst v) (fun _ _=>False)) ∨ ∃ h,dY P (s.keep (o.looksAt ops)) o.op=some (h,v)∧(g=true→h=true))
theorem YA.keep {P:Program}{ops:Array Oper}{o:Oper}{s s':AS}{y:AV} (h:YA P ops o s y) (e:s.keep (o.looksAt ops)=s'.keep (o.looksAt ops)):YA P ops o s' y:=by
 unfold YA at *; rw [← e]; exact h
theorem Sat.cndT [Df] {G:aL}{s:AS}{a:Act}{w:World}{d:Option Nat}{v:AV} (h:Sat G (s.put d v) a w):Sat G (s.put d (.cnd true v)) a w:=by
 refine ⟨h.mem,?_,h.defers⟩
 cases d with
 | none=>exact h.tmps
 | some d=>
  refine ⟨by have:=h.tmps.1; simpa [AS.put] using this,fun i x u hx hu=>?_⟩
  simp only [AS.put] at hx
  rw [List.getElem?_set] at hx
  by_cases hd:d=i
  ·subst hd
   simp only [if_true] at hx
   split at hx
   ·rename_i hl
    cases hx
    refine .cnd _ _ _ (fun _=>h.tmps.2 d v u ?_ hu) (fun h=>by cases h)
    simp only [AS.put]
    rw [List.getElem?_set,if_pos rfl,if_pos hl]
   ·cases hx
  ·rw [if_neg hd] at hx
   refine h.tmps.2 i x u ?_ hu
   simp only [AS.put]
   rw [List.getElem?_set,if_neg hd]; exact hx
theorem HQ [Df] {P:Program}{o:Oper}{a:Act}{w:World}{K:Act→World→Prop}{Q:Exit→Act→World→Prop} (ha:a.defers=Df.l) (hK:∀ a' w',K a' w'→a'.defers=Df.l) (h:o.wp P a w K Q) :
  o.wp P a w (fun a' w'=>(∃ v,a'=a.put o.dst v)∧K a' w') Q:=by
 unfold Oper.wp at *
 generalize (execOp a.eval o).run P w=r at *
 cases r with
 | ok n w'=>
  cases n <;> simp only [Oper.upon] at * <;> first | exact h | skip
  case value=>exact ⟨⟨_,rfl⟩,h⟩
  case skip=>exact ⟨⟨_,rfl⟩,h⟩
  case defer d=>
   have:=hK _ _ h
   have h2:(d :: a.defers).length=a.defers.length:=by
    cases hd:o.dst <;> simp only [Act.put,hd] at this <;> rw [this,ha]
   simp at h2
  case enter=>
   refine h.mono ?_
   intro e w'' he
   cases e with
   | returned v=>exact ⟨⟨_,rfl⟩,he⟩
   | panicked c=>exact he
   | outgrown=>exact he
  case row=>exact h.mono fun v w'' he=>⟨⟨_,rfl⟩,he⟩
 | halt x w'=>cases x <;> simp only [Oper.upon] at * <;> exact h
theorem Mz [Df] {P:Program}{L:List Nat}{o:Oper}{G:aL}{s:AS}{a:Act}{w:World}{y:AV}{K':Act→World→Prop}{Q:Exit→Act→World→Prop} (h:aop P o (s.keep L) (fun s1=>s1=(s.keep L).put o.dst y) (fun _ _=>False)) (hs:Sat G s a w)
  (hK:∀ G' a' w',Sat G' (s.put o.dst y) a' w'→bO G w G' w'→K' a' w'):o.wp P a w K' Q:=by
 have h1:=nA (Q:=Q) h (rY hs _) (fun x objs' G' v w' hf=>hf.elim)
 have h2:=HQ hs.defers (fun a' w' hn=>by obtain ⟨s',G',_,hs',_⟩:=hn; exact hs'.defers) h1
 refine Oper.wp_mono ?_ h2
 rintro a' w' ⟨⟨v,rfl⟩,s',G',rfl,hs',hst⟩
 refine hK G' _ w' ⟨hs'.mem,?_,hs'.defers⟩ hst
 have hm:=hs.tmps.mono hst.ext
 cases hd:o.dst with
 | none=>simpa [AS.put,Act.put,hd] using hm
 | some d=>
  rw [hd] at hs'
  have ht:=hs'.tmps
  simp only [AS.put,Act.put,Array.toList_setIfInBounds] at ht ⊢
  refine ⟨by simpa using hm.1,fun i x u hx hu=>?_⟩
  by_cases hdi:d=i
  ·subst hdi
   refine ht.2 d x u ?_ hu
   rw [List.getElem?_set] at hx ⊢
   simp only [if_true] at hx ⊢
   split at hx
   ·rename_i hl
    rw [if_pos (by simpa [AS.keep,kY] using hl)]; exact hx
   ·cases hx
  ·rw [List.getElem?_set,if_neg hdi] at hx hu
   exact hm.2 i x u hx hu
theorem YA.sound [Df] {P:Program}{ops:Array Oper}{o:Oper}{G:aL}{s:AS}{a:Act}{w:World}{y:AV}{K':Act→World→Prop}{Q:Exit→Act→World→Prop} (h:YA P ops o s y) (hs:Sat G s a w)
  (hK:∀ G' a' w',Sat G' (s.put o.dst y) a' w'→bO G w G' w'→K' a' w'):if Region.wanted o (yielded ops a.tmps) then o.wp P a w K' Q ∨ (o.asks P a w∧LetsOut Q) else K' (a.put o.dst undef) w:=by
 unfold YA at h
 split at h
 ·rename_i hg
  rw [if_pos (by simp [Region.wanted,hg])]
  exact .inl (Mz h hs hK)
 ·rename_i j want hg
  obtain ⟨g,v,rfl,hc,hv⟩:=h
  have hw:=qL hg hc (rY hs _)
  rw [show yielded ops a.tmps=yielded ops.toList.toArray a.tmps from rfl,hw]
  cases g
  ·rw [if_neg (by simp)]
   exact hK G _ w (hs.put0 o.dst (.cnd _ _ _ (fun h=>by cases h) (fun _=>rfl))) (bO.refl G w)
  ·rw [if_pos rfl]
   left
   rcases hv with hv | ⟨h,ht,hi⟩
   ·exact Mz (hv rfl) hs fun G' a' w' k1 k2=>hK G' a' w' k1.cndT k2
   ·exact Ao ht (rY hs _) (hi rfl) rfl fun u hu=>hK G _ w (hs.put0 o.dst (.cnd _ _ _ (fun _=>hu) (fun h=>by cases h))) (bO.refl G w)
def K2 (P:Program) (ops:Array Oper) (Q:AS→Prop):Nat→Array Bool→AS→Prop
 | 0,listed,s=>Region.ready .any ops listed=[]∧Q s
 | fuel + 1,listed,s=>(Region.ready .any ops listed=[]→Q s) ∧
   ∀ i ∈ Region.ready .any ops listed,∃ o y,ops[i]?=some o∧YA P ops o s y∧K2 P ops Q fuel (listed.setIfInBounds i true) (s.put o.dst y)
theorem Hq [Df] {P:Program}{ops:Array Oper}{Q:AS→Prop}{Q':Exit→Act→World→Prop}{G0:aL}{w0:World} (hQ:∀ G s a w,Q s→bO G0 w0 G w→Sat G s a w→Q' .normal a w) :
  ∀ (fuel:Nat) (listed:Array Bool) (G:aL) (s:AS) (a:Act) (w:World),K2 P ops Q fuel listed s→bO G0 w0 G w→Sat G s a w→wpAny P .any ops Q' fuel listed a w
 | 0,listed,G,s,a,w,h,hst,hs=>⟨h.1,hQ G s a w h.2 hst hs⟩
 | fuel + 1,listed,G,s,a,w,h,hst,hs=>by
  refine ⟨fun h0=>hQ G s a w (h.1 h0) hst hs,fun i hi=>?_⟩
  obtain ⟨o,y,ho,hy,hrest⟩:=h.2 i hi
  unfold wpOp
  simp only [ho]
  exact hy.sound hs fun G' a' w' hs' hst'=>Hq hQ fuel _ G' _ a' w' hrest (hst.trans hst') hs'
theorem O0 {P:Program}{ops:Array Oper}{Q:AS→Prop}{i:Nat}{oi:Oper}{v:AV} (hi:ops[i]?=some oi) :
  ∀ (fuel:Nat) (listed:Array Bool) (s:AS),
   (∀ j oj,ops[j]?=some oj→j ≠ i→listed.getD j true=false→(∀ e ∈ oj.after,Region.binds .any e=true→e.on ≠ i)→oi.apart ops oj=true) →
   i ∈ Region.ready .any ops listed→YA P ops oi s v →
   K2 P ops Q fuel (listed.setIfInBounds i true) (s.put oi.dst v)→K2 P ops Q (fuel + 1) listed s:=by
 intro fuel
 induction fuel with
 | zero=>
  intro listed s _ hr hy H
  refine ⟨fun h=>(by rw [h] at hr; cases hr),fun j hj=>?_⟩
  by_cases hji:j=i
  ·subst hji; exact ⟨oi,v,hi,hy,H⟩
  ·have:=ready_mono hj hji
   rw [H.1] at this
   cases this
 | succ fuel ih=>
  intro listed s hfree hr hy H
  refine ⟨fun h=>(by rw [h] at hr; cases hr),fun j hj=>?_⟩
  by_cases hji:j=i
  ·subst hji; exact ⟨oi,v,hi,hy,H⟩
  ·obtain ⟨oj,y,hoj',hyj,hrest⟩:=H.2 j (ready_mono hj hji)
   obtain ⟨hjun,oj2,hoj,hall⟩:=mem_ready.1 hj
   rw [hoj'] at hoj; cases hoj
   have hnot:∀ e ∈ oj.after,Region.binds .any e=true→e.on ≠ i:=fun e he hb heq=>by
    have h1:=hall e he hb
    have h0:=(mem_ready.1 hr).1
    rw [heq] at h1
    rcases Nat.lt_or_ge i listed.size with h' | h'
    ·simp [h'] at h0 h1; rw [h0] at h1; cases h1
    ·simp [Array.getElem?_eq_none h'] at h1
   obtain ⟨h1,h2,h3⟩:=Oper.apart_spec (hfree j oj hoj' hji hjun hnot)
   have hfree':∀ k ok,ops[k]?=some ok→k ≠ i→(listed.setIfInBounds j true).getD k true=false →
     (∀ e ∈ ok.after,Region.binds .any e=true→e.on ≠ i)→oi.apart ops ok=true:=fun k ok hk hki hun hno=>by
    refine hfree k ok hk hki ?_ hno
    by_cases hjk:j=k
    ·subst hjk; exact hjun
    ·rw [getD_set_ne true hjk] at hun; exact hun
   have k1:YA P ops oj s y:=hyj.keep (mG h1)
   have k2:YA P ops oi (s.put oj.dst y) v:=hy.keep (mG h3).symm
   refine ⟨oj,y,hoj',k1,ih (listed.setIfInBounds j true) (s.put oj.dst y) hfree' (ready_mono hr (Ne.symm hji)) k2 ?_⟩
   rw [Array.setIfInBounds_comm _ _ hji]
   rw [← zG h2]
   exact hrest
def eZ (P:Program) (ops:Array Oper):List Oper→AS→(AS→Prop)→Prop
 | [],s,K=>K s
 | o :: rest,s,K=>∃ y,YA P ops o s y∧eZ P ops rest (s.put o.dst y) K
theorem Nd {P:Program}{ops:Array Oper}{Q:AS→Prop}:∀ (l:List Oper) (k:Nat) (listed:Array Bool) (s:AS),(∀ j,l[j]?=ops[k + j]?) →
  Region.lexFrom .any ops l.length k listed=true→eZ P ops l s Q→K2 P ops Q l.length listed s
 | [],_,_,_,_,hB,h=>⟨by simpa [Region.lexFrom] using hB,h⟩
 | o :: l,k,listed,s,hl,hB,h=>by
  have h0:ops[k]?=some o:=by simpa using (hl 0).symm
  simp only [List.length_cons,Region.lexFrom,Bool.and_eq_true] at hB
  obtain ⟨⟨hr,hf⟩,hB'⟩:=hB
  obtain ⟨y,hy,hK⟩:=h
  exact O0 h0 l.length listed s (Region.free_spec h0 hf) (by simpa using hr) hy
   (Nd l (k + 1) _ _ (fun j=>by have:=hl (j + 1); simpa [Nat.add_assoc,Nat.add_comm 1 j] using this) hB' hK)
theorem Nq [Df] {P:Program}{ops:Array Oper}{Q:AS→Prop}{Q':Exit→Act→World→Prop}{G0 G:aL}{w0 w:World}{s:AS}{a:Act}{id:Nat} (hm:P.follows .mixedOrders=true) (hB:Region.lexB .any ops=true)
  (hQ:∀ G s a w,Q s→bO G0 w0 G w→Sat G s a w→Q' .normal a w) (h:eZ P ops ops.toList s Q) (hst:bO G0 w0 G w.drew) (hs:Sat G s a w.drew):(Code.region id ops true).wp P Q' a w:=by
 simp only [Region.lexB,Bool.and_eq_true] at hB
 refine wp_region_any hm (Hq hQ _ _ G s a _ ?_ hst hs)
 have:=Nd (P:=P) (Q:=Q) ops.toList 0 (Array.replicate ops.size false) s (by simp) (by simpa using hB.2) h
 simpa using this
theorem NP [Df] {P:Program}{ops:List Oper}{G0:aL}{w0:World}{E:AV→AS→Prop}{Q:Exit→Act→World→Prop}{o:Oper}{s:AS}{G:aL}{a:Act}{w:World}{K':Act→World→Prop}{R:AS→Prop}
  (hE:∀ x s G v a w,E x s→dH G0 w0 G s a w→aR G w x v→Q (.panic [{ v,recovered:=false }]) a w)
  (hf:dH G0 w0 G s a w) (hR:∀ s' G' a' w',R s'→dH G0 w0 G' s' a' w'→K' a' w') (h:dK P ops s o R (aop P o s R E) (R (s.put o.dst (.cnd false .any)))) :
  if Region.wanted o (yielded ops.toArray a.tmps) then o.wp P a w K' Q else K' (a.put o.dst undef) w:=by
 have hrun:aop P o s R E→o.wp P a w K' Q:=by
  intro hrun
  have:=nA (Q:=Q) hrun hf.sat (fun x s' G' v w' h1 h2 h3 h4=>hE x s' G' v a w' h1 ⟨hf.step.trans h3,h2⟩ h4)
  refine Oper.wp_mono ?_ this
  rintro a' w' ⟨s',G',h1,h2,h3⟩
  exact hR s' G' a' w' h1 ⟨hf.step.trans h3,h2⟩
 unfold dK at h
 split at h
 ·rename_i hg
  rw [if_pos (by simp [Region.wanted,hg])]
  exact hrun h
 ·rename_i j want hg
  split at h
  ·rename_i g hgc
   have hw:=qL hg hgc hf.sat
   rw [hw]
   split at h
   ·rename_i c y ht
    obtain ⟨hh,h⟩:=h
    cases g
    ·rw [if_neg (by simp)]
     exact hR _ G _ _ h ⟨hf.step,hf.sat.put0 o.dst (.cnd _ _ _ (fun h=>by cases h) (fun _=>rfl))⟩
    ·rw [if_pos rfl]
     exact Ao ht hf.sat (hh rfl) rfl fun v hv=>hR _ G _ _ h ⟨hf.step,hf.sat.put0 o.dst (.cnd _ _ _ (fun _=>hv) (fun h=>by cases h))⟩
   ·obtain ⟨h1,h2⟩:=h
    cases g
    ·rw [if_neg (by simp)]
     exact hR _ G _ _ (h2 rfl) ⟨hf.step,hf.sat.put0 o.dst (.cnd _ _ _ (fun h=>by cases h) (fun _=>rfl))⟩
    ·rw [if_pos rfl]
     exact hrun (h1 rfl)
  ·exact h.elim
def oP (ops:Array Oper):Nat→Nat→Array Bool→Bool
 | 0,_,listed=>(Region.ready .any ops listed).isEmpty
 | n + 1,k,listed=>Region.ready .any ops listed == [k] && oP ops n (k + 1) (listed.setIfInBounds k true)
def CW (ops:Array Oper) (n:Nat):Nat→Nat→Array Bool→Bool
 | 0,k,listed=>oP ops n k listed
 | f + 1,k,listed=>(Region.ready .any ops listed).contains k && Region.free .any ops listed k && CW ops n f (k + 1) (listed.setIfInBounds k true)
inductive Anc (ops:Array Oper):Nat→Nat→Prop
 | edge {j:Nat}{o:Oper}{e:Edge} (h:ops[j]?=some o) (he:e ∈ o.after.toList) (hb:Region.binds .any e=true):Anc ops j e.on
 | step {j i:Nat}{o:Oper}{e:Edge} (h:ops[j]?=some o) (he:e ∈ o.after.toList) (hb:Region.binds .any e=true) (hi:Anc ops e.on i):Anc ops j i
def uni:List Nat→List Nat→List Nat
 | [],l=>l
 | x :: xs,l=>if l.contains x then uni xs l else uni xs (x :: l)
theorem Jr {i:Nat}:∀ {xs l:List Nat},i ∈ uni xs l→i ∈ xs ∨ i ∈ l
 | [],l,h=>.inr h
 | x :: xs,l,h=>by
  rw [uni] at h
  split at h
  ·rcases Jr h with h | h
   ·exact .inl (by simp [h])
   ·exact .inr h
  ·rcases Jr h with h | h
   ·exact .inl (by simp [h])
   ·rcases List.mem_cons.1 h with rfl | h
    ·exact .inl (by simp)
    ·exact .inr h
def Iy (A:List (List Nat)):List Edge→List Nat
 | []=>[]
 | e :: es=>if Region.binds .any e=true then uni (e.on :: A.getD e.on []) (Iy A es) else Iy A es
def C2 (ops:Array Oper):Nat→List (List Nat)
 | 0=>[]
 | j + 1=>C2 ops j ++ [match ops[j]? with | some o=>Iy (C2 ops j) o.after.toList | none=>[]]
theorem Jz {ops:Array Oper}{A:List (List Nat)} (hA:∀ j i,i ∈ A.getD j []→Anc ops j i) {j:Nat}{o:Oper} (ho:ops[j]?=some o):∀ (es:List Edge),(∀ e ∈ es,e ∈ o.after.toList)→∀ i ∈ Iy A es,Anc ops j i
 | [],_,i,hi=>by simp [Iy] at hi
 | e :: es,hes,i,hi=>by
  rw [Iy] at hi
  split at hi
  ·rename_i hb
   rcases Jr hi with h | h
   ·rcases List.mem_cons.1 h with rfl | h
    ·exact .edge ho (hes e (by simp)) hb
    ·exact .step ho (hes e (by simp)) hb (hA _ _ h)
   ·exact Jz hA ho es (fun e he=>hes e (by simp [he])) i h
  ·exact Jz hA ho es (fun e he=>hes e (by simp [he])) i hi
theorem Lg (ops:Array Oper):∀ n,(C2 ops n).length=n
 | 0=>rfl
 | n + 1=>by simp [C2,Lg ops n]
theorem Jp (ops:Array Oper):∀ (n j i:Nat),i ∈ (C2 ops n).getD j []→Anc ops j i
 | 0,j,i,h=>by simp [C2] at h
 | n + 1,j,i,h=>by
  have ih:=Jp ops n
  have hlen:=Lg ops n
  rw [C2,List.getD_eq_getElem?_getD] at h
  rcases Nat.lt_trichotomy j n with hj | hj | hj
  ·rw [List.getElem?_append_left (by omega)] at h
   exact ih j i (by rw [List.getD_eq_getElem?_getD]; exact h)
  ·subst hj
   rw [List.getElem?_append_right (by omega),hlen,Nat.sub_self] at h
   simp only [List.getElem?_cons_zero,Option.getD_some] at h
   split at h
   ·rename_i o ho
    exact Jz ih ho _ (fun _ h=>h) i h
   ·cases h
  ·rw [List.getElem?_eq_none (by simp; omega)] at h
   simp at h
def qY (ops:Array Oper) (listed:Array Bool):Prop:=∀ (j:Nat) (o:Oper),ops[j]?=some o→listed.getD j false=true→∀ e ∈ o.after.toList,Region.binds .any e=true→listed.getD e.on false=true
theorem Anc.listed {ops:Array Oper}{listed:Array Bool} (hc:qY ops listed) {j i:Nat} (h:Anc ops j i):(∀ o,ops[j]?=some o→∀ e ∈ o.after.toList,Region.binds .any e=true→listed.getD e.on false=true)→listed.getD i false=true:=by
 induction h with
 | edge h he hb=>exact fun k=>k _ h _ he hb
 | step h he hb _ ih=>exact fun k=>ih fun o ho=>hc _ o ho (k _ h _ he hb)
def MO (ops:Array Oper) (m:Nat):Bool :=
 (List.range ops.size).all fun j=>Nat.blt j m || (List.range m).all fun i=>((C2 ops ops.size).getD j []).contains i
def Me (ops:Array Oper) (m:Nat):Bool:=Nat.ble m ops.size && MO ops m && CW ops (ops.size - m) m 0 (Array.replicate ops.size false)
def Fb (P:Program) (ops:Array Oper) (m:Nat) (T:Nat→Array Bool→AS→Prop):Nat→Array Bool→AS→Prop
 | 0,listed,s=>(∀ i ∈ Region.ready .any ops listed,m≤i)∧T 0 listed s
 | fuel + 1,listed,s=>((∀ i ∈ Region.ready .any ops listed,m≤i)→T (fuel + 1) listed s) ∧
   ((∃ i ∈ Region.ready .any ops listed,i < m)→∀ i ∈ Region.ready .any ops listed,i < m∧∃ o y,ops[i]?=some o∧YA P ops o s y∧Fb P ops m T fuel (listed.setIfInBounds i true) (s.put o.dst y))
theorem FU [Df] {P:Program}{ops:Array Oper}{m:Nat}{T:Nat→Array Bool→AS→Prop}{Q':Exit→Act→World→Prop}{G0:aL}{w0:World}
  (hT:∀ f listed G s a w,T f listed s→dH G0 w0 G s a w→wpAny P .any ops Q' f listed a w) :
  ∀ (fuel:Nat) (listed:Array Bool) (G:aL) (s:AS) (a:Act) (w:World),Fb P ops m T fuel listed s→dH G0 w0 G s a w→wpAny P .any ops Q' fuel listed a w
 | 0,listed,G,s,a,w,h,hf=>hT 0 listed G s a w h.2 hf
 | fuel + 1,listed,G,s,a,w,h,hf=>by
  by_cases hall:∀ i ∈ Region.ready .any ops listed,m≤i
  ·exact hT _ listed G s a w (h.1 hall) hf
  ·have hex:∃ i ∈ Region.ready .any ops listed,i < m:=by
    apply Classical.byContradiction
    intro hn
    exact hall fun i hi=>Nat.le_of_not_lt fun hlt=>hn ⟨i,hi,hlt⟩
   refine ⟨fun h0=>(by obtain ⟨i,hi,_⟩:=hex; rw [h0] at hi; cases hi),fun i hi=>?_⟩
   obtain ⟨_,o,y,ho,hy,hrest⟩:=h.2 hex i hi
   unfold wpOp
   simp only [ho]
   exact hy.sound hf.sat fun G' a' w' hs' hst'=>FU hT fuel _ G' _ a' w' hrest ⟨hf.step.trans hst',hs'⟩
theorem qY.set {ops:Array Oper}{listed:Array Bool} (hc:qY ops listed) {j:Nat} (hj:j ∈ Region.ready .any ops listed):qY ops (listed.setIfInBounds j true):=by
 intro k o ho hk e he hb
 by_cases hjk:j=k
 ·subst hjk
  obtain ⟨_,oj,hoj,hall⟩:=mem_ready.1 hj
  rw [ho] at hoj; cases hoj
  exact getD_set_true (hall e (by simpa using he) hb)
 ·refine getD_set_true (hc k o ho ?_ e he hb)
  rw [getD_set_ne false hjk] at hk; exact hk
theorem Np {P:Program}{ops:Array Oper}{m:Nat}{T:Nat→Array Bool→AS→Prop}{i:Nat}{oi:Oper}{v:AV} (hi:ops[i]?=some oi) (him:i < m)
  (hafter:∀ j oj,ops[j]?=some oj→m≤j→Anc ops j i) :
  ∀ (fuel:Nat) (listed:Array Bool) (s:AS),qY ops listed →
   (∀ j oj,ops[j]?=some oj→j ≠ i→listed.getD j true=false→(∀ e ∈ oj.after,Region.binds .any e=true→e.on ≠ i)→oi.apart ops oj=true) →
   i ∈ Region.ready .any ops listed→YA P ops oi s v →
   Fb P ops m T fuel (listed.setIfInBounds i true) (s.put oi.dst v)→Fb P ops m T (fuel + 1) listed s:=by
 have hlt:∀ (listed:Array Bool),qY ops listed→i ∈ Region.ready .any ops listed→∀ j ∈ Region.ready .any ops listed,j < m:=by
  intro listed hc hr j hj
  rcases Nat.lt_or_ge j m with h | h
  ·exact h
  ·exfalso
   obtain ⟨_,oj,hoj,hall⟩:=mem_ready.1 hj
   have h1:=(hafter j oj hoj h).listed hc fun o ho e he hb=>by rw [hoj] at ho; cases ho; exact hall e (by simpa using he) hb
   have h0:=(mem_ready.1 hr).1
   rcases Nat.lt_or_ge i listed.size with h' | h'
   ·simp [h'] at h0 h1; rw [h0] at h1; cases h1
   ·simp [Array.getElem?_eq_none h'] at h1
 intro fuel
 induction fuel with
 | zero=>
  intro listed s hcl _ hr hy H
  refine ⟨fun h=>absurd (h i hr) (by omega),fun _ j hj=>⟨hlt listed hcl hr j hj,?_⟩⟩
  by_cases hji:j=i
  ·subst hji; exact ⟨oi,v,hi,hy,H⟩
  ·have:=H.1 j (ready_mono hj hji)
   have:=hlt listed hcl hr j hj
   omega
 | succ fuel ih=>
  intro listed s hcl hfree hr hy H
  refine ⟨fun h=>absurd (h i hr) (by omega),fun _ j hj=>⟨hlt listed hcl hr j hj,?_⟩⟩
  by_cases hji:j=i
  ·subst hji; exact ⟨oi,v,hi,hy,H⟩
  ·obtain ⟨_,oj,y,hoj',hyj,hrest⟩:=H.2 ⟨j,ready_mono hj hji,hlt listed hcl hr j hj⟩ j (ready_mono hj hji)
   obtain ⟨hjun,oj2,hoj,hall⟩:=mem_ready.1 hj
   rw [hoj'] at hoj; cases hoj
   have hnot:∀ e ∈ oj.after,Region.binds .any e=true→e.on ≠ i:=fun e he hb heq=>by
    have h1:=hall e he hb
    have h0:=(mem_ready.1 hr).1
    rw [heq] at h1
    rcases Nat.lt_or_ge i listed.size with h' | h'
    ·simp [h'] at h0 h1; rw [h0] at h1; cases h1
    ·simp [Array.getElem?_eq_none h'] at h1
   obtain ⟨h1,h2,h3⟩:=Oper.apart_spec (hfree j oj hoj' hji hjun hnot)
   have hfree':∀ k ok,ops[k]?=some ok→k ≠ i→(listed.setIfInBounds j true).getD k true=false →
     (∀ e ∈ ok.after,Region.binds .any e=true→e.on ≠ i)→oi.apart ops ok=true:=fun k ok hk hki hun hno=>by
    refine hfree k ok hk hki ?_ hno
    by_cases hjk:j=k
    ·subst hjk; exact hjun
    ·rw [getD_set_ne true hjk] at hun; exact hun
   have k1:YA P ops oj s y:=hyj.keep (mG h1)
   have k2:YA P ops oi (s.put oj.dst y) v:=hy.keep (mG h3).symm
   refine ⟨oj,y,hoj',k1,ih (listed.setIfInBounds j true) (s.put oj.dst y) (hcl.set hj) hfree' (ready_mono hr (Ne.symm hji)) k2 ?_⟩
   rw [Array.setIfInBounds_comm _ _ hji]
   rw [← zG h2]
   exact hrest
theorem NV {ops:Array Oper}{m:Nat} (h:MO ops m=true) {i:Nat} (hi:i < m):∀ j oj,ops[j]?=some oj→m≤j→Anc ops j i:=by
 intro j oj hoj hmj
 have hj:j < ops.size:=(Array.getElem?_eq_some_iff.1 hoj).1
 have h1:=List.all_eq_true.1 h j (List.mem_range.2 hj)
 have hn:Nat.blt j m=false:=by
  cases hb:Nat.blt j m with
  | false=>rfl
  | true=>have:=Nat.le_of_ble_eq_true hb; omega
 rw [hn] at h1
 simp only [Bool.false_or] at h1
 have h2:=List.all_eq_true.1 h1 i (List.mem_range.2 hi)
 exact Jp ops ops.size j i (by simpa using h2)
theorem JU {P:Program}{ops:Array Oper}{m:Nat}{tail:List Oper}{E:AV→AS→Prop}{Q:AS→Prop} (hafter:MO ops m=true):∀ (l:List Oper) (k:Nat) (listed:Array Bool) (s:AS),qY ops listed→k + l.length=m→(∀ j,l[j]?=(ops.toList.take m)[k + j]?) →
  CW ops tail.length l.length k listed=true→eZ P ops l s (fun s'=>dB P ops.toList tail s' Q E) →
  Fb P ops m (fun f listed s=>f=tail.length∧oP ops tail.length m listed=true∧dB P ops.toList tail s Q E) (l.length + tail.length) listed s
 | [],k,listed,s,_,hk,_,hB,h=>by
  have hk':k=m:=by simpa using hk
  subst hk'
  have hB:oP ops tail.length k listed=true:=hB
  have hge:∀ i ∈ Region.ready .any ops listed,k≤i:=by
   intro i hi
   cases htl:tail.length with
   | zero=>
    rw [htl] at hB
    simp only [oP,List.isEmpty_iff] at hB
    rw [hB] at hi; cases hi
   | succ n=>
    rw [htl] at hB
    simp only [oP,Bool.and_eq_true,beq_iff_eq] at hB
    rw [hB.1] at hi
    simp at hi; omega
  have hT:(0 + tail.length)=tail.length∧oP ops tail.length k listed=true∧dB P ops.toList tail s Q E:=⟨by omega,hB,h⟩
  show Fb P ops k _ (0 + tail.length) listed s
  cases htl:tail.length with
  | zero=>rw [htl] at hT; exact ⟨hge,hT⟩
  | succ n=>
   rw [htl] at hT
   rw [show 0 + (n + 1)=n + 1 from by omega] at hT ⊢
   refine ⟨fun _=>hT,fun ⟨i,hi,hlt⟩=>?_⟩
   have:=hge i hi; omega
 | o :: l,k,listed,s,hcl,hk,hl,hB,h=>by
  have hkm:k < m:=by simp at hk; omega
  have h0:ops[k]?=some o:=by
   have:=(hl 0).symm
   simp only [Nat.add_zero,List.getElem?_cons_zero] at this
   rw [List.getElem?_take,if_pos hkm] at this
   simpa using this
  simp only [List.length_cons,CW,Bool.and_eq_true] at hB
  obtain ⟨⟨hr,hf⟩,hB'⟩:=hB
  obtain ⟨y,hy,hK⟩:=h
  rw [List.length_cons,show l.length + 1 + tail.length=(l.length + tail.length) + 1 from by omega]
  exact Np h0 hkm (NV hafter hkm) _ listed s hcl (Region.free_spec h0 hf) (by simpa using hr) hy
   (JU hafter l (k + 1) _ _ (hcl.set (by simpa using hr)) (by simp at hk; omega) (fun j=>by have:=hl (j + 1); simpa [Nat.add_assoc,Nat.add_comm 1 j] using this) hB' hK)
theorem CN [Df] {P:Program}{ops:Array Oper}{E:AV→AS→Prop}{Q:AS→Prop}{Q':Exit→Act→World→Prop}{G0:aL}{w0:World} (hQ:∀ G s a w,Q s→dH G0 w0 G s a w→Q' .normal a w)
  (hE:∀ x s G v a w,E x s→dH G0 w0 G s a w→aR G w x v→Q' (.panic [{ v,recovered:=false }]) a w) :
  ∀ (l:List Oper) (k:Nat) (listed:Array Bool) (G:aL) (s:AS) (a:Act) (w:World),(∀ j,l[j]?=ops[k + j]?)→oP ops l.length k listed=true→dB P ops.toList l s Q E→dH G0 w0 G s a w →
   wpAny P .any ops Q' l.length listed a w
 | [],k,listed,G,s,a,w,_,hB,h,hf=>⟨by simpa [oP] using hB,hQ G s a w h hf⟩
 | o :: l,k,listed,G,s,a,w,hl,hB,h,hf=>by
  have h0:ops[k]?=some o:=by simpa using (hl 0).symm
  simp only [List.length_cons,oP,Bool.and_eq_true,beq_iff_eq] at hB
  obtain ⟨hr,hB'⟩:=hB
  refine ⟨fun he=>(by rw [hr] at he; cases he),fun i hi=>?_⟩
  rw [hr] at hi
  have hik:i=k:=by simpa using hi
  subst hik
  unfold wpOp
  simp only [h0]
  have hg:=NP (K':=fun a' w'=>wpAny P .any ops Q' l.length (listed.setIfInBounds i true) a' w') hE hf
   (fun s' G' a' w' h1 h2=>CN hQ hE l (i + 1) _ G' s' a' w' (fun j=>by have:=hl (j + 1); simpa [Nat.add_assoc,Nat.add_comm 1 j] using this) hB' h1 h2) h
  rw [show yielded ops.toList.toArray a.tmps=yielded ops a.tmps from rfl] at hg
  split at hg
  ·rename_i hw; rw [if_pos hw]; exact .inl hg
  ·rename_i hw; rw [if_neg hw]; exact hg
theorem NW [Df] {P:Program}{ops:Array Oper}{m:Nat}{E:AV→AS→Prop}{Q:AS→Prop}{Q':Exit→Act→World→Prop}{G0 G:aL}{w0 w:World}{s:AS}{a:Act}{id:Nat} (hm:P.follows .mixedOrders=true) (hB:Me ops m=true)
  (hQ:∀ G s a w,Q s→dH G0 w0 G s a w→Q' .normal a w)
  (hE:∀ x s G v a w,E x s→dH G0 w0 G s a w→aR G w x v→Q' (.panic [{ v,recovered:=false }]) a w)
  (h:eZ P ops (ops.toList.take m) s (fun s'=>dB P ops.toList (ops.toList.drop m) s' Q E)) (hf:dH G0 w0 G s a w.drew):(Code.region id ops true).wp P Q' a w:=by
 simp only [Me,Bool.and_eq_true] at hB
 obtain ⟨⟨hle,haf⟩,hB⟩:=hB
 have hle:m≤ops.size:=Nat.le_of_ble_eq_true hle
 have hlt:(ops.toList.take m).length=m:=by simp; omega
 have hld:(ops.toList.drop m).length=ops.size - m:=by simp
 refine wp_region_any hm ?_
 have h1:=JU (P:=P) (ops:=ops) (m:=m) (tail:=ops.toList.drop m) (E:=E) (Q:=Q) haf (ops.toList.take m) 0 (Array.replicate ops.size false) s (fun j o _ hj=>by simp [Array.getElem?_replicate] at hj; split at hj <;> cases hj) (by omega) (by simp) (by rw [hlt,hld]; exact hB) h
 rw [hlt,hld,show m + (ops.size - m)=ops.size from by omega] at h1
 refine FU (G0:=G0) (w0:=w0) ?_ _ _ G s a _ h1 hf
 rintro f listed G s a w ⟨rfl,k1,k2⟩ hf
 have:=CN hQ hE (ops.toList.drop m) m listed G s a w (fun j=>by simp [List.getElem?_drop]) (by rw [hld]; exact k1) k2 hf
 rwa [hld] at this
theorem JS [Df] {P:Program}{o:Oper}{G:aL}{s:AS}{a:Act}{w:World}{y:AV}{K':Act→World→Prop}{Q:Exit→Act→World→Prop} (h:aop P o s (fun s1=>s1=s.put o.dst y) (fun _ _=>False)) (hs:Sat G s a w)
  (hK:∀ G' v w',Sat G' (s.put o.dst y) (a.put o.dst v) w'→bO G w G' w'→K' (a.put o.dst v) w'):o.wp P a w K' Q:=by
 have h1:=nA (Q:=Q) h hs (fun x objs' G' v w' hf=>hf.elim)
 have h2:=HQ hs.defers (fun a' w' hn=>by obtain ⟨s',G',_,hs',_⟩:=hn; exact hs'.defers) h1
 refine Oper.wp_mono ?_ h2
 rintro a' w' ⟨⟨v,rfl⟩,s',G',rfl,hs',hst⟩
 exact hK G' v w' hs' hst
theorem YA.run2 [Df] {P:Program}{ops:Array Oper}{o:Oper}{G:aL}{s:AS}{a:Act}{w:World}{y:AV}{K':Act→World→Prop}{Q:Exit→Act→World→Prop} (h:YA P ops o s y) (hs:Sat G (s.keep (o.looksAt ops)) a w)
  (hK:∀ G' v w',Sat G' ((s.keep (o.looksAt ops)).put o.dst y) (a.put o.dst v) w'→bO G w G' w'→K' (a.put o.dst v) w'):if Region.wanted o (yielded ops a.tmps) then o.wp P a w K' Q ∨ (o.asks P a w∧LetsOut Q) else K' (a.put o.dst undef) w:=by
 unfold YA at h
 split at h
 ·rename_i hg
  rw [if_pos (by simp [Region.wanted,hg])]
  exact .inl (JS h hs hK)
 ·rename_i j want hg
  obtain ⟨g,v,rfl,hc,hv⟩:=h
  have hw:=qL hg hc hs
  rw [show yielded ops a.tmps=yielded ops.toList.toArray a.tmps from rfl,hw]
  cases g
  ·rw [if_neg (by simp)]
   exact hK G _ w (hs.put0 o.dst (.cnd _ _ _ (fun h=>by cases h) (fun _=>rfl))) (bO.refl G w)
  ·rw [if_pos rfl]
   left
   rcases hv with hv | ⟨h,ht,hi⟩
   ·exact JS (hv rfl) hs fun G' v' w' k1 k2=>hK G' v' w' k1.cndT k2
   ·exact Ao ht hs (hi rfl) rfl fun u hu=>hK G _ w (hs.put0 o.dst (.cnd _ _ _ (fun _=>hu) (fun h=>by cases h))) (bO.refl G w)
theorem R7 [Df] {G G0':aL}{w w':World}{T:List AV}{objs:List Obj}{cells:List AV}{a:Act}{v:Value}{d:Option Nat}{y:AV}{T0:List AV} (hs:Sat G ⟨T,objs ++ [.box cells]⟩ a w) (hb:cM objs.length objs=true)
  (h0:Sat G0' ((⟨T0,objs⟩:AS).put d y) (a.put d v) w') (hl0:T0.length=T.length) (hst:bO ⟨G.bl.take objs.length,G.imm⟩ w G0' w') :
  ∃ G',Sat G' ((⟨T,objs ++ [.box cells]⟩:AS).put d y) (a.put d v) w'∧bO G w G' w':=by
 have hm:=hs.mem
 have hlen:G.bl.length=objs.length + 1:=by rw [hm.len]; simp
 have hn:objs.length < G.bl.length:=by omega
 obtain ⟨g,hg⟩:∃ g,G.bl[objs.length]?=some g:=⟨_,List.getElem?_eq_getElem hn⟩
 have hok:iU G w g (.box cells):=hm.ok objs.length _ g (by simp) hg
 have hm0:Mem G0' objs w':=h0.mem
 have hl':G0'.bl.length=objs.length:=hm0.len
 have hnt:∀ b l c sz ex,g ≠ .tok b l c sz ex:=by
  intro b l c sz ex h
  subst h
  rcases hok with ⟨_,l,h⟩ | ⟨_,_,_,h,_⟩ <;> cases h
 have hlt:∀ (o:Nat) (g1:GB),o < objs.length→G.bl[o]?=some g1→(G.bl.take objs.length)[o]?=some g1:=fun o g1 ho h=>fA ho h
 have hold:∀ (o:Nat) (g1:GB),G.bl[o]?=some g1→(o < objs.length∧(G.bl.take objs.length)[o]?=some g1) ∨ (o=objs.length∧g1=g):=by
  intro o g1 h
  rcases Nat.lt_trichotomy o objs.length with ho | ho | ho
  ·exact .inl ⟨ho,hlt o g1 ho h⟩
  ·subst ho; rw [hg] at h; cases h; exact .inr ⟨rfl,rfl⟩
  ·rw [List.getElem?_eq_none (by omega)] at h; cases h
 let G':aL:=⟨G0'.bl ++ [g],G0'.imm⟩
 have hnew:∀ (o:Nat) (g1:GB),G0'.bl[o]?=some g1→G'.bl[o]?=some g1:=by
  intro o g1 h
  show (G0'.bl ++ [g])[o]?=_
  rw [List.getElem?_append_left (List.getElem?_eq_some_iff.1 h).1]; exact h
 have hlast:G'.bl[objs.length]?=some g:=by
  show (G0'.bl ++ [g])[objs.length]?=_
  rw [← hl']; simp
 have hpart:∀ (o:Nat) (g1:GB),G'.bl[o]?=some g1→G0'.bl[o]?=some g1 ∨ (o=objs.length∧g1=g):=by
  intro o g1 h
  have h:(G0'.bl ++ [g])[o]?=some g1:=h
  rcases Nat.lt_trichotomy o objs.length with ho | ho | ho
  ·rw [List.getElem?_append_left (by omega)] at h; exact .inl h
  ·subst ho; rw [show (G0'.bl ++ [g])[objs.length]?=some g from hlast] at h; cases h; exact .inr ⟨rfl,rfl⟩
  ·rw [List.getElem?_eq_none (by simp; omega)] at h; cases h
 have hblk:∀ b,g.blk=some b→w'.heap[b]?=w.heap[b]?:=by
  intro b hb
  refine hst.heap b (hm.lt _ g b hg hb) ?_
  intro o g1 h1 h2
  obtain ⟨ho,h3⟩:=dT h1
  have:=hm.inj o objs.length g1 g b h3 hg h2 hb
  omega
 have himm:∀ b,g.blk=some b→∀ off,G'.imm b off→G.imm b off:=by
  intro b hb off hi
  rcases hst.imm2 b off hi with h | h | ⟨o,g1,h1,h2⟩
  ·exact h
  ·have:=hm.lt _ g b hg hb; omega
  ·obtain ⟨ho,h3⟩:=dT h1
   have:=hm.inj o objs.length g1 g b h3 hg h2 hb
   omega
 have hext:Ext G w G' w':=by
  have key:∀ t b off,G.im t b off→w'.cell? ⟨b,off,none⟩=w.cell? ⟨b,off,none⟩∧G'.im t b off:=by
   intro t b off hi
   rcases jG hi with hi0 | ⟨o,l,c,sz,rfl,h1,h2⟩
   ·exact ⟨hst.ext.cells .none b off hi0,G'.imm_im t (hst.ext.im .none b off hi0)⟩
   ·rcases hold o _ h1 with ⟨ho,h3⟩ | ⟨_,h3⟩
    ·have hin:aL.im ⟨G.bl.take objs.length,G.imm⟩ (.own o) b off:=.inr ⟨l,c,sz,h3,h2⟩
     refine ⟨hst.ext.cells (.own o) b off hin,?_⟩
     rcases hst.ext.im (.own o) b off hin with k1 | ⟨l',c',sz',k1,k2⟩
     ·exact .inl k1
     ·exact .inr ⟨l',c',sz',hnew o _ k1,k2⟩
    ·exact absurd h3.symm (hnt _ _ _ _ _)
  refine ⟨fun t b off hi=>(key t b off hi).1,fun t b off hi=>(key t b off hi).2,?_,?_,?_⟩
  ·intro o b h
   rcases hold o _ h with ⟨_,h3⟩ | ⟨rfl,h3⟩
   ·exact hnew o _ (hst.ext.obj o b h3)
   ·rw [h3]; exact hlast
  ·intro o l h
   rcases hold o _ h with ⟨_,h3⟩ | ⟨rfl,h3⟩
   ·rcases hst.ext.full o l h3 with h4 | ⟨b,l',c,sz,ex,h4,h5⟩
    ·exact .inl (hnew o _ h4)
    ·exact .inr ⟨b,l',c,sz,ex,hnew o _ h4,h5⟩
   ·exact .inl (by rw [h3]; exact hlast)
  ·intro o b l c sz ex h
   rcases hold o _ h with ⟨_,h3⟩ | ⟨rfl,h3⟩
   ·obtain ⟨b',l',c',sz',ex',h4,h5⟩:=hst.ext.tok o b l c sz ex h3
    exact ⟨b',l',c',sz',ex',hnew o _ h4,h5⟩
   ·exact absurd h3.symm (hnt _ _ _ _ _)
 have hmem:Mem G' (objs ++ [.box cells]) w':=by
  refine Mem.push (G:=G0') hm0 (hok.mono hext hblk himm) ?_
  intro b hb
  refine ⟨Nat.lt_of_lt_of_le (hm.lt _ g b hg hb) hst.size,?_⟩
  intro o g1 h1 h2
  rcases hst.blk o g1 b h1 h2 with h | ⟨o2,g2,h3,h4⟩
  ·have:=hm.lt _ g b hg hb; omega
  ·obtain ⟨ho,h5⟩:=dT h3
   have:=hm.inj o2 objs.length g2 g b h5 hg h4 hb
   omega
 refine ⟨G',⟨hmem,?_,h0.defers⟩,hext,?_,hst.size,hst.os,hst.tape,hst.output,?_,?_⟩
 ·have hm1:=hs.tmps.mono hext
  cases d with
  | none=>simpa [AS.put,Act.put] using hm1
  | some d=>
   have ht:=h0.tmps
   simp only [AS.put,Act.put,Array.toList_setIfInBounds] at ht ⊢
   refine ⟨by simpa using hm1.1,fun i x u hx hu=>?_⟩
   by_cases hdi:d=i
   ·subst hdi
    rw [List.getElem?_set] at hx
    simp only [if_true] at hx
    split at hx
    ·rename_i hl
     cases hx
     refine (ht.2 d _ u ?_ hu).mono (rW G0' w' g)
     rw [List.getElem?_set,if_pos rfl,if_pos (by rw [hl0]; exact hl)]
    ·cases hx
   ·rw [List.getElem?_set,if_neg hdi] at hx hu
    exact hm1.2 i x u hx hu
 ·intro k hk hno
  refine hst.heap k hk ?_
  intro o g1 h1
  exact hno o g1 (dT h1).2
 ·intro b off hi
  rcases hst.imm2 b off hi with h | h | ⟨o,g1,h1,h2⟩
  ·exact .inl h
  ·exact .inr (.inl h)
  ·exact .inr (.inr ⟨o,g1,(dT h1).2,h2⟩)
 ·intro o g1 b h1 h2
  rcases hpart o g1 h1 with h3 | ⟨rfl,rfl⟩
  ·rcases hst.blk o g1 b h3 h2 with h | ⟨o2,g2,h4,h5⟩
   ·exact .inl h
   ·exact .inr ⟨o2,g2,(dT h4).2,h5⟩
  ·exact .inr ⟨_,_,hg,h2⟩
def YN (P:Program) (ops:Array Oper) (a n:Nat) (cells:List AV) (i:Nat) (o:Oper) (s:AS) (y:AV):Prop :=
 if i=a then o.guard=none∧aop P o (s.keep (o.looksAt ops)) (fun s1=>s1={ (s.keep (o.looksAt ops)).put o.dst y with objs:=s.objs ++ [.box cells] }) (fun _ _=>False)
 else YA P ops o s y∧y.idsLt n=true
theorem YN.keep {P:Program}{ops:Array Oper}{a n i:Nat}{cells:List AV}{o:Oper}{s s':AS}{y:AV} (h:YN P ops a n cells i o s y) (e:s.keep (o.looksAt ops)=s'.keep (o.looksAt ops)):YN P ops a n cells i o s' y:=by
 unfold YN at *
 have eo:(s.keep (o.looksAt ops)).objs=(s'.keep (o.looksAt ops)).objs:=congrArg AS.objs e
 have eo:s.objs=s'.objs:=eo
 split at h
 ·rename_i hi; rw [if_pos hi,← e,← eo]; exact h
 ·rename_i hi; rw [if_neg hi]; exact ⟨h.1.keep e,h.2⟩
def more (listed:Array Bool) (a:Nat) (cells:List AV):List Obj:=if listed.getD a false=true then [.box cells] else []
structure Cy [Df] (ops:Array Oper) (a d0:Nat) (objs0:List Obj) (cells:List AV) (G0:aL) (w0:World) (listed:Array Bool) (G:aL) (s:AS) (x:Act) (w:World):Prop where
 from':dH G0 w0 G ⟨s.tmps,s.objs ++ more listed a cells⟩ x w
 objs:s.objs=objs0
 ids:∀ (j:Nat) (y:AV),j ≠ d0→s.tmps[j]?=some y→y.idsLt objs0.length=true
theorem R8 {T:List AV}{L:List Nat}{d0 n:Nat} (hL:d0 ∉ L) (h:∀ (j:Nat) (y:AV),j ≠ d0→T[j]?=some y→y.idsLt n=true):∀ (j:Nat) (y:AV),(yD T 0 L)[j]?=some y→y.idsLt n=true:=by
 intro j y hy
 rw [r4] at hy
 cases hx:T[j]? with
 | none=>rw [hx] at hy; cases hy
 | some x=>
  rw [hx] at hy
  simp only [Option.map_some,Option.some.injEq,Nat.zero_add] at hy
  subst hy
  cases hc:L.contains j with
  | false=>rfl
  | true=>
   have:j ≠ d0:=by
    rintro rfl
    exact hL (by simpa using hc)
   exact h j x this hx
theorem Cy.step [Df] {P:Program}{ops:Array Oper}{a d0:Nat}{objs0:List Obj}{cells:List AV}{G0:aL}{w0:World}{listed:Array Bool}{G:aL}{s:AS}{x:Act}{w:World} (h:Cy ops a d0 objs0 cells G0 w0 listed G s x w) (hb:cM objs0.length objs0=true)
  {i:Nat}{o:Oper}{y:AV} (hi:i ∈ Region.ready .any ops listed) (ho:ops[i]?=some o) (hy:YN P ops a objs0.length cells i o s y) (hd:∀ i o,ops[i]?=some o→i=a→o.dst=some d0) (hL:i ≠ a→d0 ∉ o.looksAt ops)
  {K':Act→World→Prop}{Q:Exit→Act→World→Prop} (hK:∀ G' x' w',Cy ops a d0 objs0 cells G0 w0 (listed.setIfInBounds i true) G' (s.put o.dst y) x' w'→K' x' w') :
  if Region.wanted o (yielded ops x.tmps) then o.wp P x w K' Q ∨ (o.asks P x w∧LetsOut Q) else K' (x.put o.dst undef) w:=by
 have hun:=(mem_ready.1 hi).1
 have hsz:i < listed.size:=by
  rcases Nat.lt_or_ge i listed.size with h' | h'
  ·exact h'
  ·simp [Array.getElem?_eq_none h'] at hun
 have hput:∀ (d:Option Nat) (y:AV),(s.put d y).objs=s.objs:=fun d y=>by cases d <;> rfl
 unfold YN at hy
 by_cases hia:i=a
 ·subst hia
  rw [if_pos rfl] at hy
  obtain ⟨hg,hy⟩:=hy
  have hno:more listed i cells=[]:=by
   unfold more
   rw [if_neg]
   simp [Array.getElem?_eq_getElem hsz] at hun ⊢
   exact hun
  have hyes:more (listed.setIfInBounds i true) i cells=[.box cells]:=by
   unfold more
   rw [if_pos]
   simp [hsz]
  have hf:=h.from'
  rw [hno,List.append_nil] at hf
  have hsat:Sat G s x w:=hf.sat
  rw [if_pos (by simp [Region.wanted,hg])]
  left
  have h1:=nA (Q:=Q) hy (rY hsat (o.looksAt ops)) (fun x objs' G' v w' hf=>hf.elim)
  have h2:=HQ hf.sat.defers (fun a' w' hn=>by obtain ⟨s',G',_,hs',_⟩:=hn; exact hs'.defers) h1
  refine Oper.wp_mono ?_ h2
  rintro a' w' ⟨⟨v,rfl⟩,s',G',rfl,hs',hst⟩
  refine hK G' _ w' ⟨⟨hf.step.trans hst,⟨by rw [hyes,hput]; exact hs'.mem,?_,hs'.defers⟩⟩,by rw [hput]; exact h.objs,?_⟩
  ·have hm:=hsat.tmps.mono hst.ext
   rw [hd i o ho rfl] at hs' ⊢
   have ht:=hs'.tmps
   simp only [AS.put,Act.put,Array.toList_setIfInBounds] at ht ⊢
   refine ⟨by simpa using hm.1,fun k z u hz hu=>?_⟩
   by_cases hdk:d0=k
   ·subst hdk
    refine ht.2 d0 z u ?_ hu
    rw [List.getElem?_set] at hz ⊢
    simp only [if_true] at hz ⊢
    split at hz
    ·rename_i hl
     rw [if_pos (by simpa [AS.keep,kY] using hl)]; exact hz
    ·cases hz
   ·rw [List.getElem?_set,if_neg hdk] at hz hu
    exact hm.2 k z u hz hu
  ·intro j z hj hz
   rw [hd i o ho rfl] at hz
   simp only [AS.put] at hz
   rw [List.getElem?_set,if_neg (Ne.symm hj)] at hz
   exact h.ids j z hj hz
 ·rw [if_neg hia] at hy
  obtain ⟨hy,hyn⟩:=hy
  have hmore:more (listed.setIfInBounds i true) a cells=more listed a cells:=by
   unfold more
   rw [getD_set_ne false hia]
  have hids':∀ (j:Nat) (z:AV),j ≠ d0→(s.put o.dst y).tmps[j]?=some z→z.idsLt objs0.length=true:=by
   intro j z hj hz
   cases hdst:o.dst with
   | none=>rw [hdst] at hz; exact h.ids j z hj hz
   | some d=>
    rw [hdst] at hz
    simp only [AS.put] at hz
    rw [List.getElem?_set] at hz
    split at hz
    ·split at hz
     ·cases hz; exact hyn
     ·cases hz
    ·exact h.ids j z hj hz
  by_cases hl:listed.getD a false=true
  ·have hmo:more listed a cells=[.box cells]:=by unfold more; rw [if_pos hl]
   have hf:=h.from'
   rw [hmo] at hf
   have hobj:=h.objs
   have hsat0:Sat ⟨G.bl.take objs0.length,G.imm⟩ (s.keep (o.looksAt ops)) x w:=by
    refine ⟨?_,?_,hf.sat.defers⟩
    ·show Mem _ s.objs w
     have hm:=hf.sat.mem
     rw [hobj] at hm ⊢
     exact hm.trunc hb
    ·have ht:cQ G w (yD s.tmps 0 (o.looksAt ops)) x.tmps.toList:=(rY hf.sat (o.looksAt ops)).tmps
     exact ⟨ht.1,fun j z u hz hu=>(ht.2 j z u hz hu).trunc (R8 (hL hia) h.ids j z hz)⟩
   refine hy.run2 hsat0 ?_
   intro G' v w' hs' hst
   have hs0:Sat G' ((⟨(s.keep (o.looksAt ops)).tmps,objs0⟩:AS).put o.dst y) (x.put o.dst v) w':=by
    rw [← hobj]; exact hs'
   have hsx:Sat G ⟨s.tmps,objs0 ++ [.box cells]⟩ x w:=by rw [← hobj]; exact hf.sat
   obtain ⟨G2,k1,k2⟩:=R7 hsx hb hs0 (by simp [AS.keep,kY]) hst
   refine hK G2 _ w' ⟨⟨hf.step.trans k2,?_⟩,by rw [hput]; exact hobj,hids'⟩
   rw [hmore,hmo,hput,hobj]
   have e:(⟨(s.put o.dst y).tmps,objs0 ++ [.box cells]⟩:AS)=(⟨s.tmps,objs0 ++ [.box cells]⟩:AS).put o.dst y:=by cases o.dst <;> rfl
   rw [e]; exact k1
  ·have hmo:more listed a cells=[]:=by unfold more; rw [if_neg hl]
   have hf:=h.from'
   rw [hmo,List.append_nil] at hf
   refine hy.sound hf.sat ?_
   intro G' a' w' hs' hst
   refine hK G' a' w' ⟨⟨hf.step.trans hst,?_⟩,by rw [hput]; exact h.objs,hids'⟩
   rw [hmore,hmo,List.append_nil]; exact hs'
def qU:Op→Bool
 | .move _ | .assign _ | .extract _ _=>true
 | _=>false
theorem Sp {P:Program}{o:Oper} (hp:qU o.op=true) (hd:Act) {w:World}{u:Value} (h:(execOp hd.eval o).run P w=.ok (.value u) w):∀ w',(execOp hd.eval o).run P w'=.ok (.value u) w':=by
 intro w'
 cases ho:o.op <;> simp only [qU,ho] at hp <;> first | (cases hp; done) | skip
 case move x=>simp only [execOp,ho,Sem.run_bind,Sem.run_pure,Result.andThen_ok] at h ⊢; cases h; rfl
 case assign x=>simp only [execOp,ho,Sem.run_bind,Sem.run_pure,Result.andThen_ok] at h ⊢; cases h; rfl
 case extract x k=>
  simp only [execOp,ho,Sem.run_bind] at h ⊢
  unfold Instr.extract at h ⊢
  split at h
  ·split at h
   ·simp only [Sem.run_pure,Result.andThen_ok] at h ⊢; cases h; rfl
   ·simp [stuck] at h
  ·simp [stuck] at h
theorem RI [Df] {P:Program}{o:Oper}{G:aL}{s:AS}{a:Act}{w:World}{K:AS→Prop} (hp:qU o.op=true) (h:aop P o s K (fun _ _=>False)) (hs:Sat G s a w):∃ u,(execOp a.eval o).run P w=.ok (.value u) w∧∃ s',K s'∧Sat G s' (a.put o.dst u) w:=by
 have hq:isQ o.op=true:=by
  cases ho:o.op <;> simp only [qU,ho] at hp <;> first | (cases hp; done) | rfl
 exact H4 hq h hs
theorem Cy.pure [Df] {P:Program}{ops:Array Oper}{a d0:Nat}{objs0:List Obj}{cells:List AV}{G0:aL}{w0:World}{listed:Array Bool}{G:aL}{s:AS}{x:Act}{w:World} (h:Cy ops a d0 objs0 cells G0 w0 listed G s x w)
  {i:Nat}{o:Oper}{y:AV} (hia:i ≠ a) (hg:o.guard=none) (hp:qU o.op=true) (hy:YN P ops a objs0.length cells i o s y) :
  ∃ u,(∀ w',(execOp x.eval o).run P w'=.ok (.value u) w')∧Cy ops a d0 objs0 cells G0 w0 (listed.setIfInBounds i true) G (s.put o.dst y) (x.put o.dst u) w:=by
 have hput:∀ (d:Option Nat) (y:AV),(s.put d y).objs=s.objs:=fun d y=>by cases d <;> rfl
 unfold YN at hy
 rw [if_neg hia] at hy
 obtain ⟨hy,hyn⟩:=hy
 unfold YA at hy
 rw [hg] at hy
 simp only at hy
 have hmore:more (listed.setIfInBounds i true) a cells=more listed a cells:=by
  unfold more
  rw [getD_set_ne false hia]
 have hy2:aop P o ((⟨s.tmps,s.objs ++ more listed a cells⟩:AS).keep (o.looksAt ops)) (fun s1=>s1=((⟨s.tmps,s.objs ++ more listed a cells⟩:AS).keep (o.looksAt ops)).put o.dst y) (fun _ _=>False):=by
  have e:∀ r:AV,((s.keep (o.looksAt ops)).put o.dst r=(s.keep (o.looksAt ops)).put o.dst y)→(((⟨s.tmps,s.objs ++ more listed a cells⟩:AS).keep (o.looksAt ops)).put o.dst r=((⟨s.tmps,s.objs ++ more listed a cells⟩:AS).keep (o.looksAt ops)).put o.dst y):=by
   intro r hr
   cases hd:o.dst with
   | none=>rfl
   | some d=>
    rw [hd] at hr
    have:=congrArg AS.tmps hr
    simp only [AS.put,AS.keep] at this ⊢
    rw [this]
  cases ho:o.op <;> simp only [qU,ho] at hp <;> first | (cases hp; done) | skip
  case move z=>unfold aop at hy ⊢; rw [ho] at hy ⊢; exact e _ hy
  case assign z=>unfold aop at hy ⊢; rw [ho] at hy ⊢; exact e _ hy
  case extract z k=>
   unfold aop at hy ⊢
   rw [ho] at hy ⊢
   simp only at hy ⊢
   have ee:((⟨s.tmps,s.objs ++ more listed a cells⟩:AS).keep (o.looksAt ops)).eval z=(s.keep (o.looksAt ops)).eval z:=by cases z <;> rfl
   rw [ee]
   unfold Ar at hy ⊢
   split at hy
   ·exact ⟨hy.1,e _ hy.2⟩
   ·exact hy.elim
 have hf:=h.from'
 obtain ⟨u,hu,s',rfl,hs'⟩:=RI hp hy2 (rY hf.sat (o.looksAt ops))
 refine ⟨u,Sp hp x hu,⟨⟨hf.step,?_⟩,by rw [hput]; exact h.objs,?_⟩⟩
 ·rw [hmore,hput]
  have e:(⟨(s.put o.dst y).tmps,s.objs ++ more listed a cells⟩:AS)=(⟨s.tmps,s.objs ++ more listed a cells⟩:AS).put o.dst y:=by cases o.dst <;> rfl
  rw [e]
  cases hd:o.dst with
  | none=>rw [hd] at hs'; exact ⟨hf.sat.mem,by simpa [AS.put,Act.put] using hf.sat.tmps,hs'.defers⟩
  | some d=>
   rw [hd] at hs'
   have ht:=hs'.tmps
   refine ⟨hf.sat.mem,?_,hs'.defers⟩
   simp only [AS.put,Act.put,Array.toList_setIfInBounds] at ht ⊢
   refine ⟨by simpa using hf.sat.tmps.1,fun j z v hz hv=>?_⟩
   by_cases hdj:d=j
   ·subst hdj
    refine ht.2 d z v ?_ hv
    rw [List.getElem?_set] at hz ⊢
    simp only [if_true] at hz ⊢
    split at hz
    ·rename_i hl
     rw [if_pos (by simpa [AS.keep,kY] using hl)]; exact hz
    ·cases hz
   ·rw [List.getElem?_set,if_neg hdj] at hz hv
    exact hf.sat.tmps.2 j z v hz hv
 ·intro j z hj hz
  cases hdst:o.dst with
  | none=>rw [hdst] at hz; exact h.ids j z hj hz
  | some d=>
   rw [hdst] at hz
   simp only [AS.put] at hz
   rw [List.getElem?_set] at hz
   split at hz
   ·split at hz
    ·cases hz; exact hyn
    ·cases hz
   ·exact h.ids j z hj hz
def xR (P:Program) (ops:Array Oper) (a n:Nat) (cells:List AV) (m:Nat) (st:Nat→Bool) (T:Nat→Array Bool→AS→Prop):Nat→Array Bool→AS→Prop
 | 0,listed,s=>Region.ready .any ops listed=[]∧T 0 listed s
 | fuel + 1,listed,s=>((∀ i ∈ Region.ready .any ops listed,st i=false)→T (fuel + 1) listed s) ∧
   (∀ i ∈ Region.ready .any ops listed,i < m→∃ o y,ops[i]?=some o∧YN P ops a n cells i o s y∧xR P ops a n cells m st T fuel (listed.setIfInBounds i true) (s.put o.dst y)) ∧
   ((∃ i ∈ Region.ready .any ops listed,st i=true)→∀ i ∈ Region.ready .any ops listed,i < m)
def A6 [Df] (P:Program) (ops:Array Oper) (Q':Exit→Act→World→Prop) (a d0:Nat) (objs0:List Obj) (cells:List AV) (G0:aL) (w0:World) (f:Nat) (listed:Array Bool) (s:AS):Prop :=
 ∀ G x w,Cy ops a d0 objs0 cells G0 w0 listed G s x w→wpAny P .any ops Q' f listed x w
theorem Fn [Df] {P:Program}{ops:Array Oper}{a d0:Nat}{objs0:List Obj}{cells:List AV}{m:Nat}{st:Nat→Bool}{Q':Exit→Act→World→Prop}{G0:aL}{w0:World} (hb:cM objs0.length objs0=true)
  (hd:∀ i o,ops[i]?=some o→i=a→o.dst=some d0) (hL:∀ i o,ops[i]?=some o→i < m→i ≠ a→d0 ∉ o.looksAt ops) :
  ∀ (fuel:Nat) (listed:Array Bool) (s:AS),xR P ops a objs0.length cells m st (A6 P ops Q' a d0 objs0 cells G0 w0) fuel listed s→A6 P ops Q' a d0 objs0 cells G0 w0 fuel listed s
 | 0,listed,s,h=>h.2
 | fuel + 1,listed,s,h=>by
  intro G x w hf
  by_cases hall:∀ i ∈ Region.ready .any ops listed,st i=false
  ·exact h.1 hall G x w hf
  ·have hex:∃ i ∈ Region.ready .any ops listed,st i=true:=by
    apply Classical.byContradiction
    intro hn
    refine hall fun i hi=>?_
    cases hst:st i with
    | false=>rfl
    | true=>exact absurd ⟨i,hi,hst⟩ hn
   refine ⟨fun h0=>(by obtain ⟨i,hi,_⟩:=hex; rw [h0] at hi; cases hi),fun i hi=>?_⟩
   have him:=h.2.2 hex i hi
   obtain ⟨o,y,ho,hy,hrest⟩:=h.2.1 i hi him
   unfold wpOp
   simp only [ho]
   exact hf.step hb hi ho hy hd (hL i o ho him) fun G' x' w' k=>Fn hb hd hL fuel _ _ hrest G' x' w' k
theorem NF {P:Program}{ops:Array Oper}{a n:Nat}{cells:List AV}{m:Nat}{st:Nat→Bool}{T:Nat→Array Bool→AS→Prop}{i:Nat}{oi:Oper}{v:AV} (hi:ops[i]?=some oi) (him:i < m)
  (hafter:∀ k,st k=true→∀ j oj,ops[j]?=some oj→m≤j→Anc ops j k)
  (hsnd:∀ fuel listed s,xR P ops a n cells m st T fuel listed s→T fuel listed s)
  (hlate:st i=false→∀ (fuel:Nat) (listed:Array Bool) (s:AS),(∀ j oj,ops[j]?=some oj→j ≠ i→listed.getD j true=false→(∀ e ∈ oj.after,Region.binds .any e=true→e.on ≠ i)→oi.apart ops oj=true) →
   i ∈ Region.ready .any ops listed→YN P ops a n cells i oi s v→T fuel (listed.setIfInBounds i true) (s.put oi.dst v)→T (fuel + 1) listed s) :
  ∀ (fuel:Nat) (listed:Array Bool) (s:AS),qY ops listed →
   (∀ j oj,ops[j]?=some oj→j ≠ i→listed.getD j true=false→(∀ e ∈ oj.after,Region.binds .any e=true→e.on ≠ i)→oi.apart ops oj=true) →
   i ∈ Region.ready .any ops listed→YN P ops a n cells i oi s v →
   xR P ops a n cells m st T fuel (listed.setIfInBounds i true) (s.put oi.dst v)→xR P ops a n cells m st T (fuel + 1) listed s:=by
 have hC:∀ (listed:Array Bool),qY ops listed→(∃ k ∈ Region.ready .any ops listed,st k=true)→∀ j ∈ Region.ready .any ops listed,j < m:=by
  rintro listed hc ⟨k,hk,hst⟩ j hj
  rcases Nat.lt_or_ge j m with h | h
  ·exact h
  ·exfalso
   obtain ⟨_,oj,hoj,hall⟩:=mem_ready.1 hj
   have h1:=(hafter k hst j oj hoj h).listed hc fun o ho e he hb=>by rw [hoj] at ho; cases ho; exact hall e (by simpa using he) hb
   have h0:=(mem_ready.1 hk).1
   rcases Nat.lt_or_ge k listed.size with h' | h'
   ·simp [h'] at h0 h1; rw [h0] at h1; cases h1
   ·simp [Array.getElem?_eq_none h'] at h1
 intro fuel
 induction fuel with
 | zero=>
  intro listed s hcl hfree hr hy H
  refine ⟨fun h=>hlate (h i hr) 0 listed s hfree hr hy H.2,fun j hj _=>?_,hC listed hcl⟩
  by_cases hji:j=i
  ·subst hji; exact ⟨oi,v,hi,hy,H⟩
  ·have:=ready_mono hj hji
   rw [H.1] at this; cases this
 | succ fuel ih=>
  intro listed s hcl hfree hr hy H
  refine ⟨fun h=>hlate (h i hr) _ listed s hfree hr hy (hsnd _ _ _ H),fun j hj hjm=>?_,hC listed hcl⟩
  by_cases hji:j=i
  ·subst hji; exact ⟨oi,v,hi,hy,H⟩
  ·obtain ⟨oj,y,hoj',hyj,hrest⟩:=H.2.1 j (ready_mono hj hji) hjm
   obtain ⟨hjun,oj2,hoj,hall⟩:=mem_ready.1 hj
   rw [hoj'] at hoj; cases hoj
   have hnot:∀ e ∈ oj.after,Region.binds .any e=true→e.on ≠ i:=fun e he hb heq=>by
    have h1:=hall e he hb
    have h0:=(mem_ready.1 hr).1
    rw [heq] at h1
    rcases Nat.lt_or_ge i listed.size with h' | h'
    ·simp [h'] at h0 h1; rw [h0] at h1; cases h1
    ·simp [Array.getElem?_eq_none h'] at h1
   obtain ⟨h1,h2,h3⟩:=Oper.apart_spec (hfree j oj hoj' hji hjun hnot)
   have hfree':∀ k ok,ops[k]?=some ok→k ≠ i→(listed.setIfInBounds j true).getD k true=false →
     (∀ e ∈ ok.after,Region.binds .any e=true→e.on ≠ i)→oi.apart ops ok=true:=fun k ok hk hki hun hno=>by
    refine hfree k ok hk hki ?_ hno
    by_cases hjk:j=k
    ·subst hjk; exact hjun
    ·rw [getD_set_ne true hjk] at hun; exact hun
   have k1:YN P ops a n cells j oj s y:=hyj.keep (mG h1)
   have k2:YN P ops a n cells i oi (s.put oj.dst y) v:=hy.keep (mG h3).symm
   refine ⟨oj,y,hoj',k1,ih (listed.setIfInBounds j true) (s.put oj.dst y) (hcl.set hj) hfree' (ready_mono hr (Ne.symm hji)) k2 ?_⟩
   rw [Array.setIfInBounds_comm _ _ hji]
   rw [← zG h2]
   exact hrest
theorem K7 [Df] {P:Program}{ops:Array Oper}{Q':Exit→Act→World→Prop}{a d0:Nat}{objs0:List Obj}{cells:List AV}{G0:aL}{w0:World}{i:Nat}{oi:Oper}{v:AV} (hi:ops[i]?=some oi) (hs:Region.noSelect ops=true)
  (hP:∀ c d u a w,Q' (.panic c) (a.put d u) w→Q' (.panic c) a w) (hia:i ≠ a) (hg:oi.guard=none) (hp:qU oi.op=true)
  (fuel:Nat) (listed:Array Bool) (s:AS) (hfree:∀ j oj,ops[j]?=some oj→j ≠ i→listed.getD j true=false→(∀ e ∈ oj.after,Region.binds .any e=true→e.on ≠ i)→oi.apart ops oj=true)
  (hr:i ∈ Region.ready .any ops listed) (hy:YN P ops a objs0.length cells i oi s v) (h:A6 P ops Q' a d0 objs0 cells G0 w0 fuel (listed.setIfInBounds i true) (s.put oi.dst v)):A6 P ops Q' a d0 objs0 cells G0 w0 (fuel + 1) listed s:=by
 intro G x w hf
 obtain ⟨u,hu,hf'⟩:=hf.pure hia hg hp hy
 exact wpAny_first hi (Region.noSelect_spec hs) (fun c a w hq=>hP c _ _ a w hq) fuel listed x w hfree hr (.inl ⟨by simp [Region.wanted,hg],hu⟩) (h G _ w hf')
def pU (P:Program) (ops:Array Oper) (a:Nat) (cells:List AV):List Oper→Nat→AS→(AS→Prop)→Prop
 | [],_,s,K=>K s
 | o :: rest,k,s,K=>
  if k=a then ∃ y,(o.guard=none∧aop P o (s.keep (o.looksAt ops)) (fun s1=>s1={ (s.keep (o.looksAt ops)).put o.dst y with objs:=s.objs ++ [.box cells] }) (fun _ _=>False))∧pU P ops a cells rest (k + 1) (s.put o.dst y) K
  else ∃ y,YA P ops o s y∧pU P ops a cells rest (k + 1) (s.put o.dst y) K
def ER (P:Program) (ops:Array Oper) (a n:Nat) (cells:List AV):List Oper→Nat→AS→(AS→Prop)→Prop
 | [],_,s,K=>K s
 | o :: rest,k,s,K=>∃ y,YN P ops a n cells k o s y∧ER P ops a n cells rest (k + 1) (s.put o.dst y) K
theorem OH (s:AS) (d:Option Nat) (y:AV):(s.put d y).tmps.length=s.tmps.length:=by cases d <;> simp [AS.put]
theorem RN {s:AS}{d:Option Nat}{y:AV}{j:Nat} (h:d ≠ some j):(s.put d y).tmps[j]?=s.tmps[j]?:=by
 cases d with
 | none=>rfl
 | some d=>simp only [AS.put]; rw [List.getElem?_set,if_neg (fun e=>h (by rw [e]))]
theorem HY {P:Program}{ops:Array Oper}{a:Nat}{cells:List AV}{d:Nat}:∀ (l:List Oper) (k:Nat) (s:AS) (K:AS→Prop),pU P ops a cells l k s K→(∀ o ∈ l,o.dst ≠ some d)→∃ s',K s'∧s'.tmps[d]?=s.tmps[d]?
 | [],_,s,K,h,_=>⟨s,h,rfl⟩
 | o :: l,k,s,K,h,hd=>by
  have key:∃ y,pU P ops a cells l (k + 1) (s.put o.dst y) K:=by
   unfold pU at h
   split at h
   ·obtain ⟨y,_,h⟩:=h; exact ⟨y,h⟩
   ·obtain ⟨y,_,h⟩:=h; exact ⟨y,h⟩
  obtain ⟨y,h⟩:=key
  obtain ⟨s',h1,h2⟩:=HY l (k + 1) _ K h (fun o ho=>hd o (by simp [ho]))
  exact ⟨s',h1,h2.trans (RN (hd o (by simp)))⟩
def EI (d0 nt:Nat):List Oper→List Nat→Bool
 | [],_=>true
 | o :: l,seen=>(match o.dst with
  | some d=>Nat.blt d nt && !seen.contains d
  | none=>false) && EI d0 nt l (match o.dst with | some d=>d :: seen | none=>seen)
theorem P8 {d0 nt:Nat} (l:List Oper):∀ (seen:List Nat),EI d0 nt l seen=true→∀ o ∈ l,∃ d,o.dst=some d∧d < nt∧d ∉ seen:=by
 induction l with
 | nil=>intro seen _ o ho; cases ho
 | cons o l ih=>
  intro seen h o' ho
  rw [EI,Bool.and_eq_true] at h
  obtain ⟨h1,h2⟩:=h
  cases hd:o.dst with
  | none=>rw [hd] at h1; cases h1
  | some d=>
   rw [hd] at h1 h2
   simp only [Bool.and_eq_true,Bool.not_eq_true'] at h1
   rcases List.mem_cons.1 ho with rfl | ho
   ·exact ⟨d,hd,Nat.le_of_ble_eq_true h1.1,by simpa using h1.2⟩
   ·obtain ⟨d',k1,k2,k3⟩:=ih _ h2 o' ho
    exact ⟨d',k1,k2,fun hm=>k3 (by simp [hm])⟩
theorem Iz {P:Program}{ops:Array Oper}{a d0 n:Nat}{cells:List AV}:∀ (l:List Oper) (k:Nat) (s:AS) (K:AS→Prop) (seen:List Nat),pU P ops a cells l k s K→EI d0 s.tmps.length l seen=true →
  (∀ (j:Nat) o,l[j]?=some o→k + j=a→o.dst=some d0)→(∀ (j:Nat) o,l[j]?=some o→k + j ≠ a→o.dst ≠ some d0) →
  (∀ s',K s'→∀ (j:Nat) (z:AV),j ≠ d0→s'.tmps[j]?=some z→z.idsLt n=true)→ER P ops a n cells l k s K
 | [],_,s,K,_,h,_,_,_,_=>h
 | o :: l,k,s,K,seen,h,hd,ha,hna,hfin=>by
  rw [EI,Bool.and_eq_true] at hd
  obtain ⟨hd1,hd2⟩:=hd
  obtain ⟨d,hdst⟩:∃ d,o.dst=some d:=by
   cases h:o.dst with
   | none=>rw [h] at hd1; cases hd1
   | some d=>exact ⟨d,rfl⟩
  rw [hdst] at hd1 hd2
  simp only [Bool.and_eq_true,Bool.not_eq_true'] at hd1
  have hdl:d < s.tmps.length:=Nat.le_of_ble_eq_true hd1.1
  have hrest:∀ o' ∈ l,o'.dst ≠ some d:=fun o' ho' e=>by
   obtain ⟨d',h1,_,h3⟩:=P8 l _ hd2 o' ho'
   rw [e] at h1; cases h1
   exact h3 (by simp)
  unfold pU at h
  unfold ER
  by_cases hk:k=a
  ·rw [if_pos hk] at h
   obtain ⟨y,h1,h2⟩:=h
   refine ⟨y,by unfold YN; rw [if_pos hk]; exact h1,Iz l (k + 1) _ K (d :: seen) h2 (by rw [OH]; exact hd2) (fun j o hj hja=>ha (j + 1) o (by simpa using hj) (by omega)) (fun j o hj hja=>hna (j + 1) o (by simpa using hj) (by omega)) hfin⟩
  ·rw [if_neg hk] at h
   obtain ⟨y,h1,h2⟩:=h
   refine ⟨y,?_,Iz l (k + 1) _ K (d :: seen) h2 (by rw [OH]; exact hd2) (fun j o hj hja=>ha (j + 1) o (by simpa using hj) (by omega)) (fun j o hj hja=>hna (j + 1) o (by simpa using hj) (by omega)) hfin⟩
   unfold YN
   rw [if_neg hk]
   refine ⟨h1,?_⟩
   obtain ⟨s',k1,k2⟩:=HY l (k + 1) _ K h2 hrest
   refine hfin s' k1 d y ?_ ?_
   ·rintro rfl
    exact hna 0 o (by simp) (by omega) hdst
   ·rw [k2,hdst]
    simp only [AS.put]
    rw [List.getElem?_set,if_pos rfl,if_pos hdl]
theorem JG [Df] {P:Program}{ops:Array Oper}{Q':Exit→Act→World→Prop}{a d0:Nat}{objs0:List Obj}{cells:List AV}{G0:aL}{w0:World}{m:Nat}{st:Nat→Bool}{tail:List Oper}{Q:AS→Prop}
  (hQ:∀ G s a w,Q s→dH G0 w0 G s a w→Q' .normal a w) (htl:∀ j,tail[j]?=ops[m + j]?) (ham:a < m) (hms:m≤ops.size)
  (hafter:∀ k,st k=true→∀ j oj,ops[j]?=some oj→m≤j→Anc ops j k)
  (hsnd:∀ fuel listed s,xR P ops a objs0.length cells m st (A6 P ops Q' a d0 objs0 cells G0 w0) fuel listed s→A6 P ops Q' a d0 objs0 cells G0 w0 fuel listed s) (hs:Region.noSelect ops=true)
  (hP:∀ c d u a w,Q' (.panic c) (a.put d u) w→Q' (.panic c) a w) (hlate:∀ i o,ops[i]?=some o→i < m→st i=false→i ≠ a∧o.guard=none∧qU o.op=true) :
  ∀ (l:List Oper) (k:Nat) (listed:Array Bool) (s:AS),listed.size=ops.size→(∀ i,i < k→listed.getD i false=true)→qY ops listed→k + l.length=m→(∀ j,l[j]?=(ops.toList.take m)[k + j]?) →
  CW ops tail.length l.length k listed=true→ER P ops a objs0.length cells l k s (fun s'=>dB P ops.toList tail { s' with objs:=s'.objs ++ [.box cells] } Q (fun _ _=>False)) →
  xR P ops a objs0.length cells m st (A6 P ops Q' a d0 objs0 cells G0 w0) (l.length + tail.length) listed s
 | [],k,listed,s,_,hli,hcl,hk,_,hB,h=>by
  have hk':k=m:=by simpa using hk
  subst hk'
  have hB:oP ops tail.length k listed=true:=hB
  have hge:∀ i ∈ Region.ready .any ops listed,k≤i:=by
   intro i hi
   cases htl:tail.length with
   | zero=>
    rw [htl] at hB
    simp only [oP,List.isEmpty_iff] at hB
    rw [hB] at hi; cases hi
   | succ n=>
    rw [htl] at hB
    simp only [oP,Bool.and_eq_true,beq_iff_eq] at hB
    rw [hB.1] at hi
    simp at hi; omega
  have hT:A6 P ops Q' a d0 objs0 cells G0 w0 tail.length listed s:=by
   intro G x w hw
   have hf:=hw.from'
   rw [show more listed a cells=[.box cells] by unfold more; rw [if_pos (hli a ham)]] at hf
   exact CN hQ (fun _ _ _ _ _ _ h=>h.elim) tail k listed G _ x w htl hB h hf
  show xR P ops a objs0.length cells k st _ (0 + tail.length) listed s
  rw [Nat.zero_add]
  cases htl':tail.length with
  | zero=>
   rw [htl'] at hT hB
   exact ⟨by simpa [oP] using hB,hT⟩
  | succ n=>
   rw [htl'] at hT
   refine ⟨fun _=>hT,fun i hi hlt=>?_,?_⟩
   ·have:=hge i hi; omega
   ·rintro ⟨i,hi,hst⟩ j hj
    exfalso
    obtain ⟨_,oi,hoi,hall⟩:=mem_ready.1 hi
    have h1:=(hafter i hst i oi hoi (hge i hi)).listed hcl fun o ho e he hb=>by rw [hoi] at ho; cases ho; exact hall e (by simpa using he) hb
    have h0:=(mem_ready.1 hi).1
    rcases Nat.lt_or_ge i listed.size with h' | h'
    ·simp [h'] at h0 h1; rw [h0] at h1; cases h1
    ·simp [Array.getElem?_eq_none h'] at h1
 | o :: l,k,listed,s,hsz,hli,hcl,hk,hl,hB,h=>by
  have hkm:k < m:=by simp at hk; omega
  have h0:ops[k]?=some o:=by
   have:=(hl 0).symm
   simp only [Nat.add_zero,List.getElem?_cons_zero] at this
   rw [List.getElem?_take,if_pos hkm] at this
   simpa using this
  simp only [List.length_cons,CW,Bool.and_eq_true] at hB
  obtain ⟨⟨hr,hf⟩,hB'⟩:=hB
  obtain ⟨y,hy,hK⟩:=h
  rw [List.length_cons,show l.length + 1 + tail.length=(l.length + tail.length) + 1 from by omega]
  refine NF h0 hkm hafter hsnd (fun hst fuel listed s hfree hr hy hT=>by
    obtain ⟨q1,q2,q3⟩:=hlate k o h0 hkm hst
    exact K7 h0 hs hP q1 q2 q3 fuel listed s hfree hr hy hT) _ listed s hcl (Region.free_spec h0 hf) (by simpa using hr) hy
   (JG hQ htl ham hms hafter hsnd hs hP hlate l (k + 1) _ _ (by simpa using hsz) (fun i hi=>?_) (hcl.set (by simpa using hr)) (by simp at hk; omega) (fun j=>by have:=hl (j + 1); simpa [Nat.add_assoc,Nat.add_comm 1 j] using this) hB' hK)
  by_cases hik:i=k
  ·subst hik; simp [hsz]; omega
  ·rw [getD_set_ne false (Ne.symm hik)]; exact hli i (by omega)
def Bv (ops:Array Oper) (m i:Nat):Bool:=(List.range ops.size).all fun j=>Nat.blt j m || ((C2 ops ops.size).getD j []).contains i
theorem LR {ops:Array Oper}{m k:Nat} (h:Bv ops m k=true):∀ j oj,ops[j]?=some oj→m≤j→Anc ops j k:=by
 intro j oj hoj hmj
 have hj:j < ops.size:=(Array.getElem?_eq_some_iff.1 hoj).1
 have h1:=List.all_eq_true.1 h j (List.mem_range.2 hj)
 have hn:Nat.blt j m=false:=by
  cases hb:Nat.blt j m with
  | false=>rfl
  | true=>have:=Nat.le_of_ble_eq_true hb; omega
 rw [hn] at h1
 exact Jp ops ops.size j k (by simpa using h1)
def O6 (ops:Array Oper) (m a d0 nt:Nat):Bool :=
 Nat.ble m ops.size && Nat.blt a m && Region.noSelect ops && CW ops (ops.size - m) m 0 (Array.replicate ops.size false) && EI d0 nt (ops.toList.take m) [] &&
 ((List.range m).all fun i=>match ops[i]? with | some o=>(if i=a then o.dst == some d0 else o.dst != some d0 && !(o.looksAt ops).contains d0) && (Bv ops m i || (i != a && o.guard.isNone && qU o.op)) | none=>false)
def Pe (P:Program) (ops:Array Oper) (s:AS) (K:AS→Prop):Prop :=
 ∃ m a d0 cells,O6 ops m a d0 s.tmps.length=true∧cM s.objs.length s.objs=true∧AV.idsLtL s.objs.length s.tmps=true ∧
  pU P ops a cells (ops.toList.take m) 0 s (fun s'=>AV.idsLtL s.objs.length (s'.tmps.set d0 .any)=true∧dB P ops.toList (ops.toList.drop m) { s' with objs:=s'.objs ++ [.box cells] } K (fun _ _=>False))
theorem Il {P:Program}{ops:Array Oper}{a n:Nat}{cells:List AV}{K K':AS→Prop} (hK:∀ s,K s→K' s):∀ (l:List Oper) (k:Nat) (s:AS),ER P ops a n cells l k s K→ER P ops a n cells l k s K'
 | [],_,s,h=>hK s h
 | o :: l,k,s,⟨y,h1,h2⟩=>⟨y,h1,Il hK l (k + 1) _ h2⟩
theorem Lj [Df] {P:Program}{ops:Array Oper}{Q:AS→Prop}{Q':Exit→Act→World→Prop}{G0 G:aL}{w0 w:World}{s:AS}{x:Act}{id:Nat} (hm:P.follows .mixedOrders=true)
  (hQ:∀ G s a w,Q s→dH G0 w0 G s a w→Q' .normal a w) (hP:∀ c d u a w,Q' (.panic c) (a.put d u) w→Q' (.panic c) a w) (h:Pe P ops s Q) (hf:dH G0 w0 G s x w.drew):(Code.region id ops true).wp P Q' x w:=by
 obtain ⟨m,a,d0,cells,hB,hb,hids,h⟩:=h
 simp only [O6,Bool.and_eq_true] at hB
 obtain ⟨⟨⟨⟨⟨hle,ham⟩,hsel⟩,hB⟩,hdst⟩,hall⟩:=hB
 have hle:m≤ops.size:=Nat.le_of_ble_eq_true hle
 have ham:a < m:=Nat.le_of_ble_eq_true ham
 have hlt:(ops.toList.take m).length=m:=by simp; omega
 have hld:(ops.toList.drop m).length=ops.size - m:=by simp
 have hat:∀ i o,ops[i]?=some o→i < m→((i=a→o.dst=some d0)∧(i ≠ a→o.dst ≠ some d0∧d0 ∉ o.looksAt ops))∧(Bv ops m i=false→i ≠ a∧o.guard=none∧qU o.op=true):=by
  intro i o ho him
  have:=List.all_eq_true.1 hall i (List.mem_range.2 him)
  rw [ho] at this
  simp only [Bool.and_eq_true] at this
  obtain ⟨h1,h2⟩:=this
  refine ⟨⟨fun hia=>?_,fun hia=>?_⟩,fun hst=>?_⟩
  ·simpa [hia] using h1
  ·rw [if_neg hia] at h1
   simpa using h1
  ·rw [hst] at h2
   simp only [Bool.false_or,Bool.and_eq_true,bne_iff_ne,ne_eq,Option.isNone_iff_eq_none] at h2
   exact ⟨h2.1.1,h2.1.2,h2.2⟩
 have hti:∀ (j:Nat) o,(ops.toList.take m)[j]?=some o→j < m∧ops[j]?=some o:=by
  intro j o hj
  rw [List.getElem?_take] at hj
  split at hj
  ·exact ⟨by assumption,by simpa using hj⟩
  ·cases hj
 have h1:=Iz (d0:=d0) (n:=s.objs.length) (ops.toList.take m) 0 s _ [] h hdst
  (fun j o hj hja=>by obtain ⟨k1,k2⟩:=hti j o hj; exact (hat j o k2 k1).1.1 (by omega))
  (fun j o hj hja=>by obtain ⟨k1,k2⟩:=hti j o hj; exact ((hat j o k2 k1).1.2 (by omega)).1)
  (fun s' hs' j z hj hz=>dM hs'.1 j z (by rw [List.getElem?_set,if_neg (Ne.symm hj)]; exact hz))
 have h2:=Il (K':=fun s'=>dB P ops.toList (ops.toList.drop m) { s' with objs:=s'.objs ++ [.box cells] } Q (fun _ _=>False)) (fun s hs=>hs.2) _ _ _ h1
 have hsnd:∀ fuel listed s',xR P ops a s.objs.length cells m (Bv ops m) (A6 P ops Q' a d0 s.objs cells G0 w0) fuel listed s'→A6 P ops Q' a d0 s.objs cells G0 w0 fuel listed s' :=
  fun fuel listed s' hh=>Fn hb (fun i o ho hia=>(hat i o ho (by omega)).1.1 hia) (fun i o ho him hia=>((hat i o ho him).1.2 hia).2) fuel listed s' hh
 refine wp_region_any hm ?_
 have h3:=JG (P:=P) (ops:=ops) (Q':=Q') (G0:=G0) (w0:=w0) (a:=a) (d0:=d0) (objs0:=s.objs) (m:=m) (st:=Bv ops m) (tail:=ops.toList.drop m) (Q:=Q) hQ (fun j=>by simp [List.getElem?_drop]) ham hle (fun k hk=>LR hk) hsnd hsel hP
  (fun i o ho him hst=>(hat i o ho him).2 hst) (ops.toList.take m) 0 (Array.replicate ops.size false) s (by simp) (fun i hi=>by omega) (fun j o _ hj=>by simp [Array.getElem?_replicate] at hj; split at hj <;> cases hj) (by omega) (by simp) (by rw [hlt,hld]; exact hB) h2
 rw [hlt,hld,show m + (ops.size - m)=ops.size from by omega] at h3
 refine hsnd _ _ _ h3 G x _ ⟨?_,rfl,fun j z _ hz=>dM hids j z hz⟩
 have:more (Array.replicate ops.size false) a cells=[]:=by
  unfold more
  rw [if_neg]
  simp [Array.getElem?_replicate]
  split <;> simp
 rw [this,List.append_nil]; exact hf
def Obj.free:Obj→Bool
 | .tok ..=>true
 | .dead=>true
 | _=>false
def gI:List Obj→List Obj→Prop
 | [],_=>True
 | x :: xs,y :: ys=>(x.free=true ∨ x=y)∧gI xs ys
 | x :: xs,[]=>x.free=true∧gI xs []
theorem gI.get:∀ {xs ys:List Obj},gI xs ys→∀ {o:Nat}{x:Obj},xs[o]?=some x→x.free=false→ys[o]?=some x
 | [],_,_,o,x,h,_=>by simp at h
 | x :: xs,y :: ys,h,0,z,hz,hf=>by
  simp only [List.getElem?_cons_zero,Option.some.injEq] at hz ⊢
  subst hz
  rcases h.1 with h1 | h1
  ·rw [hf] at h1; cases h1
  ·exact h1.symm
 | x :: xs,y :: ys,h,o + 1,z,hz,hf=>by
  simp only [List.getElem?_cons_succ] at hz ⊢
  exact gI.get h.2 hz hf
 | x :: xs,[],h,0,z,hz,hf=>by
  simp only [List.getElem?_cons_zero,Option.some.injEq] at hz
  subst hz
  have:=h.1; rw [hf] at this; cases this
 | x :: xs,[],h,o + 1,z,hz,hf=>by
  simp only [List.getElem?_cons_succ] at hz
  have:=gI.get h.2 hz hf
  simp at this
def IA:Op→Bool
 | .move _ | .assign _ | .pick .. | .fieldAddr .. | .field .. | .load .. | .extract .. | .binOp .. | .unOp .. | .indexAddr .. | .index .. | .slice .. | .nilCheck _ | .buildSlice ..=>true
 | .call c=>(match c.callee with | .builtin .len=>true | _=>false)
 | _=>false
theorem Lf {P:Program}{objs objs':List Obj}{t:TypeId}{x:AV}{k:AV→Prop} (h:kK P objs t x k) (hk:gI objs objs'):kK P objs' t x k:=by
 unfold kK at *
 split at h
 ·split at h
  ·rename_i o off
   split at h
   ·rename_i cells hc
    rw [hk.get hc rfl]; exact h
   ·rename_i e buf hc
    rw [hk.get hc rfl]; exact h
   ·exact h.elim
  ·exact h
  ·exact h.elim
 ·exact h.elim
theorem IC {P:Program}{objs objs':List Obj}{t:TypeId}{x:AV}{k:AV→Prop} (h:rV P objs t x k) (hk:gI objs objs'):rV P objs' t x k:=by
 unfold rV at *
 split at h
 ·split at h
  ·rename_i hd hc
   simp only [hd,hk.get hc rfl]; exact h
  ·exact h.elim
 ·exact h.elim
theorem Q2 {P:Program}{t:TypeId}{len:Nat}{parts:List (Nat × AV)}{objs:List Obj}{k:AV→List Obj→Prop} (h:Qa P t len parts objs k):∃ v o,k v (objs ++ [o]):=by
 rcases h with h | h
 ·unfold MK at h
  obtain ⟨_,_,i,e,j,_,_,_,_,h⟩:=h
  exact ⟨_,_,h⟩
 ·unfold Hi at h
  split at h
  ·split at h
   ·split at h
    ·obtain ⟨_,_,h⟩:=h
     split at h
     ·split at h
      ·exact ⟨_,_,h⟩
      ·exact h.elim
     ·exact h.elim
    ·exact h.elim
   ·exact h.elim
  ·exact h.elim
theorem Sf {P:Program}{o:Oper}{T:List AV}{objs objs':List Obj}{y:AV} (hr:IA o.op=true) (hk:gI objs objs') (h:aop P o ⟨T,objs⟩ (fun s1=>s1=(⟨T,objs⟩:AS).put o.dst y) (fun _ _=>False)) :
  aop P o ⟨T,objs'⟩ (fun s1=>s1=(⟨T,objs'⟩:AS).put o.dst y) (fun _ _=>False):=by
 have hK:(fun r=>(⟨T,objs⟩:AS).put o.dst r=(⟨T,objs⟩:AS).put o.dst y)=(fun r=>(⟨T,objs'⟩:AS).put o.dst r=(⟨T,objs'⟩:AS).put o.dst y):=by
  funext r
  cases o.dst with
  | none=>simp [AS.put]
  | some d=>simp [AS.put]
 have hK1:∀ r,((⟨T,objs⟩:AS).put o.dst r=(⟨T,objs⟩:AS).put o.dst y)=((⟨T,objs'⟩:AS).put o.dst r=(⟨T,objs'⟩:AS).put o.dst y):=fun r=>congrFun hK r
 have hev:(⟨T,objs⟩:AS).eval=(⟨T,objs'⟩:AS).eval:=by
  funext x; cases x <;> rfl
 have hraw:(⟨T,objs⟩:AS).raw=(⟨T,objs'⟩:AS).raw:=by
  funext x; cases x <;> rfl
 unfold aop at *
 cases ho:o.op <;> simp only [IA,ho] at hr <;> first | (cases hr; done) | skip
 all_goals simp only [ho] at h ⊢
 all_goals (try (rw [hev,hK] at h; exact h))
 all_goals (try (rw [hev,hraw,hK] at h; exact h))
 case move x=>rw [hev,hK1] at h; exact h
 case assign x=>rw [hev,hK1] at h; exact h
 case load t a=>rw [hev,hK] at h; exact Lf h hk
 case buildSlice t len parts=>
  rcases h with h | h
  ·left; rw [hev,hK] at h; exact h
  ·obtain ⟨v,x,h⟩:=Q2 h
   have h2:=congrArg (fun s:AS=>s.objs.length) h
   cases hd:o.dst <;> rw [hd] at h2 <;> simp [AS.put] at h2
 case call c=>
  split at hr
  ·rename_i hc
   simp only [hc] at h ⊢
   rw [hev] at h
   unfold dR at *
   simp only at h ⊢
   split at h
   ·rename_i t x ht hx
    rcases h with h | h
    ·left
     have:(fun r=>(⟨((⟨T,objs⟩:AS).put o.dst r).tmps,objs⟩:AS)=(⟨T,objs⟩:AS).put o.dst y)=(fun r=>(⟨((⟨T,objs'⟩:AS).put o.dst r).tmps,objs'⟩:AS)=(⟨T,objs'⟩:AS).put o.dst y):=by
      funext r
      cases o.dst with
      | none=>simp [AS.put]
      | some d=>simp [AS.put]
     rw [← this]; exact h
    ·right
     have:(fun r=>(⟨((⟨T,objs⟩:AS).put o.dst r).tmps,objs⟩:AS)=(⟨T,objs⟩:AS).put o.dst y)=(fun r=>(⟨((⟨T,objs'⟩:AS).put o.dst r).tmps,objs'⟩:AS)=(⟨T,objs'⟩:AS).put o.dst y):=by
      funext r
      cases o.dst with
      | none=>simp [AS.put]
      | some d=>simp [AS.put]
     rw [← this]; exact IC h hk
   ·exact h.elim
  ·cases hr
def YE (P:Program) (ops:Array Oper) (o:Oper) (s:AS) (v:AV) (objs':List Obj):Prop :=
 o.guard=none∧aop P o (s.keep (o.looksAt ops)) (fun s1=>s1=⟨((s.keep (o.looksAt ops)).put o.dst v).tmps,objs'⟩) (fun _ _=>False)
theorem YE.keep {P:Program}{ops:Array Oper}{o:Oper}{s s':AS}{v:AV}{objs':List Obj} (h:YE P ops o s v objs') (e:s.keep (o.looksAt ops)=s'.keep (o.looksAt ops)):YE P ops o s' v objs':=by
 unfold YE at *; rw [← e]; exact h
theorem Ri [Df] {P:Program}{L:List Nat}{o:Oper}{G:aL}{s:AS}{a:Act}{w:World}{v:AV}{objs':List Obj}{K':Act→World→Prop}{Q:Exit→Act→World→Prop} (h:aop P o (s.keep L) (fun s1=>s1=⟨((s.keep L).put o.dst v).tmps,objs'⟩) (fun _ _=>False)) (hs:Sat G s a w)
  (hK:∀ G' a' w',Sat G' ⟨(s.put o.dst v).tmps,objs'⟩ a' w'→bO G w G' w'→K' a' w'):o.wp P a w K' Q:=by
 have h1:=nA (Q:=Q) h (rY hs _) (fun x objs' G' v w' hf=>hf.elim)
 have h2:=HQ hs.defers (fun a' w' hn=>by obtain ⟨s',G',_,hs',_⟩:=hn; exact hs'.defers) h1
 refine Oper.wp_mono ?_ h2
 rintro a' w' ⟨⟨u,rfl⟩,s',G',rfl,hs',hst⟩
 refine hK G' _ w' ⟨hs'.mem,?_,hs'.defers⟩ hst
 have hm:=hs.tmps.mono hst.ext
 cases hd:o.dst with
 | none=>simpa [AS.put,Act.put,hd] using hm
 | some d=>
  rw [hd] at hs'
  have ht:=hs'.tmps
  simp only [AS.put,Act.put,Array.toList_setIfInBounds] at ht ⊢
  refine ⟨by simpa using hm.1,fun i x u hx hu=>?_⟩
  by_cases hdi:d=i
  ·subst hdi
   refine ht.2 d x u ?_ hu
   rw [List.getElem?_set] at hx ⊢
   simp only [if_true] at hx ⊢
   split at hx
   ·rename_i hl
    rw [if_pos (by simpa [AS.keep,kY] using hl)]; exact hx
   ·cases hx
  ·rw [List.getElem?_set,if_neg hdi] at hx hu
   exact hm.2 i x u hx hu
theorem YA.stable {P:Program}{ops:Array Oper}{o:Oper}{s:AS}{y:AV}{objs':List Obj} (h:YA P ops o s y) (hr:IA o.op=true) (hg:o.guard=none) (hk:gI s.objs objs'):YA P ops o ⟨s.tmps,objs'⟩ y:=by
 unfold YA at *
 rw [hg] at h ⊢
 exact Sf hr hk h
def nH (hs:List Nat):Nat→List Obj→List Obj
 | _,[]=>[]
 | i,x :: xs=>(if hs.contains i then .dead else x) :: nH hs (i + 1) xs
theorem F3:∀ (i:Nat) (xs:List Obj),nH [] i xs=xs
 | _,[]=>rfl
 | i,x :: xs=>by unfold nH; rw [F3 (i + 1) xs]; rfl
theorem AE (hs:List Nat):∀ (i:Nat) (xs:List Obj),gI (nH hs i xs) xs
 | _,[]=>trivial
 | i,x :: xs=>by
  refine ⟨?_,AE hs (i + 1) xs⟩
  split
  ·exact .inl rfl
  ·exact .inr rfl
theorem C1 (hs:List Nat):∀ (i:Nat) (xs ys:List Obj),gI (nH hs i xs) ys→gI (nH hs i xs) (nH hs i ys)
 | _,[],_,_=>trivial
 | i,x :: xs,[],h=>by
  unfold nH at h ⊢
  exact ⟨h.1,C1 hs (i + 1) xs [] h.2⟩
 | i,x :: xs,y :: ys,h=>by
  unfold nH at h ⊢
  refine ⟨?_,C1 hs (i + 1) xs ys h.2⟩
  by_cases hc:hs.contains i=true
  ·rw [if_pos hc]; exact .inl rfl
  ·rw [if_neg hc,if_neg hc]
   have:=h.1
   rw [if_neg hc] at this
   exact this
def AS.hid (s:AS) (hs:List Nat):AS:=⟨s.tmps,nH hs 0 s.objs⟩
theorem IR (s:AS) (hs:List Nat) (d:Option Nat) (v:AV):(s.put d v).hid hs=(s.hid hs).put d v:=by cases d <;> rfl
def nD (hs ea:List Nat) (i:Nat):List Nat:=if ea.contains i then [] else hs
def wA (ea:List Nat) (o:Oper):Bool:=ea.all fun i=>o.after.toList.any fun e=>Region.binds .any e && Nat.beq e.on i
theorem Nv {ea:List Nat}{o:Oper}{i:Nat} (h:wA ea o=true) (hi:ea.contains i=true):∃ e ∈ o.after,Region.binds .any e=true∧e.on=i:=by
 unfold wA at h
 rw [List.all_eq_true] at h
 have:=h i (by simpa using hi)
 obtain ⟨e,he,h2⟩:=List.any_eq_true.1 this
 simp only [Bool.and_eq_true] at h2
 exact ⟨e,by simpa using he,h2.1,Nat.eq_of_beq_eq_true h2.2⟩
def E5 (P:Program) (ops:Array Oper) (hs ea:List Nat) (Q:AS→Prop):Nat→Array Bool→AS→Prop
  | 0,listed,s=>Region.ready .any ops listed=[]∧Q s
  | fuel + 1,listed,s=>(Region.ready .any ops listed=[]→Q s) ∧
      ∀ i ∈ Region.ready .any ops listed,∃ o,ops[i]?=some o ∧
        ((∃ y,IA o.op=true∧o.guard=none∧YA P ops o (s.hid (nD hs ea i)) y∧E5 P ops hs ea Q fuel (listed.setIfInBounds i true) (s.put o.dst y)) ∨
         (∃ v objs',YE P ops o s v objs'∧gI (nH hs 0 s.objs) objs'∧(gI s.objs objs' ∨ wA ea o=true)∧E5 P ops hs ea Q fuel (listed.setIfInBounds i true) ⟨(s.put o.dst v).tmps,objs'⟩))
theorem AY [Df] {P:Program}{ops:Array Oper}{hs ea:List Nat}{Q:AS→Prop}{Q':Exit→Act→World→Prop}{G0:aL}{w0:World} (hQ:∀ G s a w,Q s→dH G0 w0 G s a w→Q' .normal a w) :
  ∀ (fuel:Nat) (listed:Array Bool) (G:aL) (s:AS) (a:Act) (w:World),E5 P ops hs ea Q fuel listed s→dH G0 w0 G s a w→wpAny P .any ops Q' fuel listed a w
 | 0,listed,G,s,a,w,h,hf=>⟨h.1,hQ G s a w h.2 hf⟩
 | fuel + 1,listed,G,s,a,w,h,hf=>by
  refine ⟨fun h0=>hQ G s a w (h.1 h0) hf,fun i hi=>?_⟩
  obtain ⟨o,ho,hy⟩:=h.2 i hi
  unfold wpOp
  simp only [ho]
  rcases hy with ⟨y,hrd,hgd,hy,hrest⟩ | ⟨v,objs',hy,_,_,hrest⟩
  ·have hy:=hy.stable hrd hgd (AE (nD hs ea i) _ _)
   exact hy.sound hf.sat fun G' a' w' hs' hst'=>AY hQ fuel _ G' _ a' w' hrest ⟨hf.step.trans hst',hs'⟩
  ·rw [if_pos (by simp [Region.wanted,hy.1])]
   exact .inl (Ri hy.2 hf.sat fun G' a' w' hs' hst'=>AY hQ fuel _ G' _ a' w' hrest ⟨hf.step.trans hst',hs'⟩)
theorem K1 (s:AS) (d:Option Nat) (v:AV):(s.put d v).objs=s.objs:=by cases d <;> rfl
theorem N1 {P:Program}{ops:Array Oper}{hs ea:List Nat}{Q:AS→Prop}{i:Nat}{oi:Oper}{v:AV} (hi:ops[i]?=some oi) (hrd:IA oi.op=true) (hgi:oi.guard=none) :
  ∀ (fuel:Nat) (listed:Array Bool) (s:AS),
   (∀ j oj,ops[j]?=some oj→j ≠ i→listed.getD j true=false→(∀ e ∈ oj.after,Region.binds .any e=true→e.on ≠ i)→oi.apart ops oj=true) →
   i ∈ Region.ready .any ops listed→YA P ops oi (s.hid (nD hs ea i)) v →
   E5 P ops hs ea Q fuel (listed.setIfInBounds i true) (s.put oi.dst v)→E5 P ops hs ea Q (fuel + 1) listed s:=by
 intro fuel
 induction fuel with
 | zero=>
  intro listed s _ hr hy H
  refine ⟨fun h=>(by rw [h] at hr; cases hr),fun j hj=>?_⟩
  by_cases hji:j=i
  ·subst hji; exact ⟨oi,hi,.inl ⟨v,hrd,hgi,hy,H⟩⟩
  ·have:=ready_mono hj hji
   rw [H.1] at this
   cases this
 | succ fuel ih=>
  intro listed s hfree hr hy H
  refine ⟨fun h=>(by rw [h] at hr; cases hr),fun j hj=>?_⟩
  by_cases hji:j=i
  ·subst hji; exact ⟨oi,hi,.inl ⟨v,hrd,hgi,hy,H⟩⟩
  ·obtain ⟨oj,hoj',hyj⟩:=H.2 j (ready_mono hj hji)
   obtain ⟨hjun,oj2,hoj,hall⟩:=mem_ready.1 hj
   rw [hoj'] at hoj; cases hoj
   have hnot:∀ e ∈ oj.after,Region.binds .any e=true→e.on ≠ i:=fun e he hb heq=>by
    have h1:=hall e he hb
    have h0:=(mem_ready.1 hr).1
    rw [heq] at h1
    rcases Nat.lt_or_ge i listed.size with h' | h'
    ·simp [h'] at h0 h1; rw [h0] at h1; cases h1
    ·simp [Array.getElem?_eq_none h'] at h1
   obtain ⟨h1,h2,h3⟩:=Oper.apart_spec (hfree j oj hoj' hji hjun hnot)
   have hfree':∀ k ok,ops[k]?=some ok→k ≠ i→(listed.setIfInBounds j true).getD k true=false →
     (∀ e ∈ ok.after,Region.binds .any e=true→e.on ≠ i)→oi.apart ops ok=true:=fun k ok hk hki hun hno=>by
    refine hfree k ok hk hki ?_ hno
    by_cases hjk:j=k
    ·subst hjk; exact hjun
    ·rw [getD_set_ne true hjk] at hun; exact hun
   rcases hyj with ⟨y,hrj,hgj,hyj,hrest⟩ | ⟨v',objs',hyj,hke,hea,hrest⟩
   ·rw [IR] at hyj
    have k1:YA P ops oj (s.hid (nD hs ea j)) y:=hyj.keep (mG h1)
    have k2:YA P ops oi ((s.put oj.dst y).hid (nD hs ea i)) v:=by rw [IR]; exact hy.keep (mG h3).symm
    refine ⟨oj,hoj',.inl ⟨y,hrj,hgj,k1,ih (listed.setIfInBounds j true) (s.put oj.dst y) hfree' (ready_mono hr (Ne.symm hji)) k2 ?_⟩⟩
    rw [Array.setIfInBounds_comm _ _ hji]
    rw [← zG h2]
    exact hrest
   ·have k1:YE P ops oj s v' objs':=hyj.keep (mG h1)
    rw [K1] at hke hea
    have hki:gI (nH (nD hs ea i) 0 s.objs) objs':=by
     unfold nD
     by_cases hei:ea.contains i=true
     ·rw [if_pos hei,F3]
      rcases hea with h | h
      ·exact h
      ·obtain ⟨e,he,hb,heq⟩:=Nv h hei
       exact (hnot e he hb heq).elim
     ·rw [if_neg hei]; exact hke
    have k2:YA P ops oi (AS.hid ⟨(s.put oj.dst v').tmps,objs'⟩ (nD hs ea i)) v:=by
     have:=(hy.keep (s':=(s.hid (nD hs ea i)).put oj.dst v') (mG h3).symm).stable hrd hgi (objs':=nH (nD hs ea i) 0 objs') (by rw [K1]; exact C1 (nD hs ea i) _ _ _ hki)
     rw [← IR] at this
     exact this
    refine ⟨oj,hoj',.inr ⟨v',objs',k1,hke,hea,ih (listed.setIfInBounds j true) _ hfree' (ready_mono hr (Ne.symm hji)) k2 ?_⟩⟩
    rw [Array.setIfInBounds_comm _ _ hji]
    have e:((⟨(s.put oj.dst v').tmps,objs'⟩:AS).put oi.dst v)=⟨((s.put oi.dst v).put oj.dst v').tmps,objs'⟩:=by
     rw [zG h2]
     cases oi.dst <;> rfl
    rw [e]
    exact hrest
def vJ (ops:Array Oper):List (Bool × Nat)→Array Bool→Bool
 | [],listed=>(Region.ready .any ops listed).isEmpty
 | (false,i) :: r,listed=>(Region.ready .any ops listed).contains i && Region.free .any ops listed i && (match ops[i]? with | some o=>IA o.op && o.guard.isNone | none=>false) && vJ ops r (listed.setIfInBounds i true)
 | (true,i) :: r,listed=>Region.ready .any ops listed == [i] && vJ ops r (listed.setIfInBounds i true)
def Cn (P:Program) (ops:Array Oper) (hs ea:List Nat) (Q:AS→Prop):List (Bool × Nat)→AS→Prop
 | [],s=>Q s
 | (false,i) :: r,s=>∃ o,ops[i]?=some o∧∃ y,YA P ops o (s.hid (nD hs ea i)) y∧Cn P ops hs ea Q r (s.put o.dst y)
 | (true,i) :: r,s=>∃ o,ops[i]?=some o∧∃ v objs',YE P ops o s v objs'∧gI (nH hs 0 s.objs) objs'∧(gI s.objs objs' ∨ wA ea o=true)∧Cn P ops hs ea Q r ⟨(s.put o.dst v).tmps,objs'⟩
theorem CE {P:Program}{ops:Array Oper}{hs ea:List Nat}{Q:AS→Prop}:∀ (r:List (Bool × Nat)) (listed:Array Bool) (s:AS),vJ ops r listed=true→Cn P ops hs ea Q r s→E5 P ops hs ea Q r.length listed s
 | [],listed,s,hB,h=>⟨by simpa [vJ] using hB,h⟩
 | (false,i) :: r,listed,s,hB,h=>by
  obtain ⟨o,ho,y,hy,hK⟩:=h
  simp only [vJ,Bool.and_eq_true,ho,Option.isNone_iff_eq_none] at hB
  obtain ⟨⟨⟨hr,hf⟩,hrd,hg⟩,hB⟩:=hB
  exact N1 ho hrd hg r.length listed s (Region.free_spec ho hf) (by simpa using hr) hy (CE r _ _ hB hK)
 | (true,i) :: r,listed,s,hB,h=>by
  obtain ⟨o,ho,v,objs',hy,hk,hea,hK⟩:=h
  simp only [vJ,Bool.and_eq_true,beq_iff_eq] at hB
  obtain ⟨hr,hB⟩:=hB
  refine ⟨fun h0=>(by rw [h0] at hr; cases hr),fun j hj=>?_⟩
  rw [hr] at hj
  have hj:j=i:=by simpa using hj
  subst hj
  exact ⟨o,ho,.inr ⟨v,objs',hy,hk,hea,CE r _ _ hB hK⟩⟩
theorem Nx [Df] {P:Program}{ops:Array Oper}{hs ea:List Nat}{r:List (Bool × Nat)}{Q:AS→Prop}{Q':Exit→Act→World→Prop}{G0 G:aL}{w0 w:World}{s:AS}{a:Act}{id:Nat} (hm:P.follows .mixedOrders=true)
  (hn:r.length=ops.size) (hB:vJ ops r (Array.replicate ops.size false)=true)
  (hQ:∀ G s a w,Q s→dH G0 w0 G s a w→Q' .normal a w) (h:Cn P ops hs ea Q r s) (hf:dH G0 w0 G s a w.drew):(Code.region id ops true).wp P Q' a w:=by
 refine wp_region_any hm ?_
 have h1:=CE r _ s hB h
 rw [hn] at h1
 exact AY hQ _ _ G s a _ h1 hf
theorem Ow {α:Type} (c us:List α) (off p:Nat) (h:off + us.length≤c.length):(c.take off ++ us ++ c.drop (off + us.length))[p]?=if off≤p∧p < off + us.length then us[p - off]? else c[p]?:=by
 have hl:(c.take off).length=off:=by rw [List.length_take]; omega
 split
 ·rename_i hp
  rw [List.getElem?_append_left (by rw [List.length_append,hl]; omega),List.getElem?_append_right (by omega),hl]
 ·rename_i hp
  rcases Nat.lt_or_ge p off with h1 | h1
  ·rw [List.getElem?_append_left (by rw [List.length_append,hl]; omega),List.getElem?_append_left (by omega),List.getElem?_take,if_pos h1]
  ·rw [List.getElem?_append_right (by rw [List.length_append,hl]; omega),List.length_append,hl,List.getElem?_drop]
   congr 1; omega
def PU (P:Program) (n0:Nat) (o:Oper) (s:AS) (K:AS→Prop):Prop :=
 o.guard=none∧o.dst=none∧∃ t ax xx,o.op=.store t ax xx ∧
 ∃ (pre:List Obj) (T0:List AV) (d:Nat) (rows:List (List D)) (r ds:List D) (sz e i off:Nat) (xs:List AV) (j:TI),
  s.objs=pre ++ [.tok rows.length sz e true]∧n0≤pre.length ∧
  (T0.length=s.tmps.length∧∀ (j:Nat) (x:AV),T0[j]?=some x→x=.any ∨ s.tmps[j]?=some x)∧AV.idsLtL pre.length T0=true∧cM pre.length pre=true ∧
  s.tmps[d]?=some (.sl rows (.own pre.length))∧s.eval ax=.ep rows i off (.own pre.length)∧rows[i]?=some r∧r.length=sz ∧
  i6 (s.eval xx)=some xs∧AV.toDs xs=some ds∧off + ds.length≤sz∧ti P t=some j∧j.size=ds.length ∧
  K ⟨T0.set d (.sl (rows.set i (r.take off ++ ds ++ r.drop (off + ds.length))) (.own pre.length)),s.objs⟩
theorem NZ [Df] {P:Program}{n0:Nat}{o:Oper}{s:AS}{K:AS→Prop}{G0 G:aL}{w0 w:World}{a:Act} (hn:G0.bl.length=n0) (h:PU P n0 o s K) (hf:dH G0 w0 G s a w) :
  o.guard=none∧∃ t ax xx,o.op=.store t ax xx∧o.dst=none∧∃ w' G' s',(Instr.storeAt t (a.eval ax) (a.eval xx)).run P w=.ok () w'∧K s'∧dH G0 w0 G' s' a w':=by
 obtain ⟨hg0,hdst,t,ax,xx,hop,pre,T0,d,rows,r,ds,sz,e,i,off,xs,j,hobjs,hn0,⟨hT1,hT2⟩,hT3,hpre,hd,hax,hr,hrl,hcx,hds,hfit,hj,hjs,hk⟩:=h
 refine ⟨hg0,t,ax,xx,hop,hdst,?_⟩
 have hm:=hf.sat.mem
 rw [hobjs] at hm
 have hlen:G.bl.length=pre.length + 1:=by rw [hm.len]; simp
 obtain ⟨g,hg,hok⟩:=hm.obj (o:=pre.length) (x:=.tok rows.length sz e true) (by simp)
 have hil:i < rows.length:=(List.getElem?_eq_some_iff.1 hr).1
 rcases hok with ⟨_,hex⟩ | ⟨b,cap,cur,rfl,hh,hc1,hc2,hc3,hc4,_⟩
 ·have:=hex rfl; omega
 have him:∀ off,¬ G.imm b off:=hc4 rfl
 have tok_of:∀ {v:Value},zH G rows.length v (.own pre.length)→v=.slice (some ⟨b,0,none⟩) rows.length cap:=by
  intro v ht
  rcases ht with ⟨l,k1,_⟩ | ⟨b',l,c,sz',ex,k1,_,k3⟩
  ·rw [hg] at k1; cases k1
  ·rw [hg] at k1; cases k1; exact k3 rfl
 have hax':=hf.sat.eval ax
 rw [hax] at hax'
 have hdl:d < a.tmps.toList.length:=by
  rw [hf.sat.tmps.1]; exact (List.getElem?_eq_some_iff.1 hd).1
 have hv:=hf.sat.tmps.2 d _ _ hd (List.getElem?_eq_getElem hdl)
 have hxv:=hf.sat.eval xx
 obtain ⟨us,e1,e2,e3,e4⟩:=uD hxv hcx
 obtain ⟨hdl1,hdl2⟩:=DS hds
 have hul:us.length=ds.length:=by rw [e2,hdl1]
 generalize a.eval ax=pa at hax'
 cases hax' with
 | ep _ _ _ _ b' st sz' hrows c ht=>
 have hbst:=tok_of ht
 simp only [Value.slice.injEq,Option.some.injEq,Addr.mk.injEq] at hbst
 obtain ⟨⟨rfl,rfl,_⟩,_,rfl⟩:=hbst
 have hsz:sz'=sz:=by rw [← hrows.1 i r hr,hrl]
 subst hsz
 have hmul:i * sz' + sz'≤c * sz':=by
  have:(i + 1) * sz'≤c * sz':=Nat.mul_le_mul_right _ (by omega)
  rwa [Nat.succ_mul] at this
 have hq:i * sz' + off + us.length≤cur.size:=by rw [hc1]; omega
 have hrun:=run_storeCells_at P b' (i * sz' + off) e us 0 cur w hh (by simpa using hq) (fun v hv=>by
  obtain ⟨i,hi,rfl⟩:=List.mem_iff_getElem.1 hv
  exact e3 i _ (List.getElem?_eq_getElem hi))
 simp only [Nat.add_zero] at hrun
 generalize hw':w.setRow b' (cur.toList.take (i * sz' + off) ++ us ++ cur.toList.drop (i * sz' + off + us.length)).toArray=w' at hrun
 have hsame:w'.heap[b']?=some (.cells (cur.toList.take (i * sz' + off) ++ us ++ cur.toList.drop (i * sz' + off + us.length)).toArray e (0,0)):=by rw [← hw',setRow_heap w b' cur _ e (0,0) hh]
 have hother:∀ k,k ≠ b'→w'.heap[k]?=w.heap[k]?:=fun k hk=>by rw [← hw']; exact setRow_other w b' k _ hk
 have hsize:w'.heap.size=w.heap.size:=by rw [← hw']; simp
 have hos:w'.os=w.os∧w'.tape=w.tape∧w'.output=w.output∧w'.drawn=w.drawn:=by rw [← hw']; exact ⟨rfl,rfl,rfl,rfl⟩
 have hGe:G=⟨G.bl.take pre.length ++ [.tok b' rows.length c sz' true],G.imm⟩:=by
  cases G with
  | mk bl imm=>
   have hlen':bl.length=pre.length + 1:=hlen
   congr 1
   refine List.ext_getElem? fun q=>?_
   rcases Nat.lt_trichotomy q pre.length with h1 | h1 | h1
   ·rw [List.getElem?_append_left (by simp; omega),List.getElem?_take,if_pos h1]
   ·subst h1
    rw [List.getElem?_append_right (by rw [List.length_take]; omega),List.length_take,Nat.min_eq_left (by omega),Nat.sub_self]
    exact hg
   ·rw [List.getElem?_eq_none (by omega),List.getElem?_eq_none (by simp; omega)]
 have hinj:∀ (o:Nat) (g:GB),G.bl[o]?=some g→g.blk=some b'→o=pre.length:=fun o g1 h1 h2=>hm.inj _ _ _ _ _ h1 hg h2 rfl
 have hmt:=hm.trunc hpre
 have hextt:Ext ⟨G.bl.take pre.length,G.imm⟩ w ⟨G.bl.take pre.length,G.imm⟩ w':=by
  refine ⟨fun t b o hi=>?_,fun _ _ _ h=>h,fun _ _ h=>h,fun _ _ h=>.inl h,fun _ b l c sz ex h=>⟨b,l,c,sz,ex,h,.inr ⟨rfl,rfl,rfl⟩⟩⟩
  refine fF (hother b ?_) o
  rintro rfl
  rcases jG hi with hi | ⟨o',l,c,s,_,h7,_⟩
  ·exact him _ hi
  ·obtain ⟨h8,h9⟩:=dT h7
   have:=hinj _ _ h9 rfl
   omega
 have hmt':Mem ⟨G.bl.take pre.length,G.imm⟩ pre w':=by
  refine ⟨hmt.len,fun o x g1 hx hg1=>?_,hmt.inj,fun o g1 b h1 h2=>by rw [hsize]; exact hmt.lt o g1 b h1 h2,fun b off h=>by rw [hsize]; exact hmt.immLt.1 b off h,hmt.gl hextt⟩
  refine (hmt.ok o x g1 hx hg1).mono hextt (fun b hb=>hother b ?_) (fun _ _ _ h=>h)
  rintro rfl
  obtain ⟨h8,h9⟩:=dT hg1
  have:=hinj _ _ h9 hb
  omega
 have hcell:∀ p,w'.cell? ⟨b',p,none⟩=if i * sz' + off≤p∧p < i * sz' + off + us.length then us[p - (i * sz' + off)]? else w.cell? ⟨b',p,none⟩:=by
  intro p
  rw [lM hsame,List.getElem?_toArray,Ow cur.toList us (i * sz' + off) p (by simpa using hq),lM hh]
  split <;> simp
 have hm2:Mem G (pre ++ [.tok rows.length sz' e true]) w':=by
  rw [hGe]
  refine Mem.push (G:=⟨G.bl.take pre.length,G.imm⟩) hmt' (.inr ⟨b',c,_,rfl,hsame,?_,hc2,hc3,fun _=>him,fun h=>by cases h⟩) ?_
  ·simp only [List.size_toArray,List.length_append,List.length_take,List.length_drop,Array.length_toList]; omega
  ·intro b hb
   cases hb
   rw [hsize]
   refine ⟨hm.lt _ _ _ hg rfl,fun o g1 h1 h2=>?_⟩
   obtain ⟨h8,h9⟩:=dT h1
   have:=hinj _ _ h9 h2
   omega
 have hstep:bO G0 w0 G w':=by
  have hs:=hf.step
  have hb0:∀ t o,¬ G0.im t b' o:=by
   intro t o hi
   rcases jG hi with hi | ⟨o',l,c,s,ht1,h7,_⟩
   ·exact him _ (hs.ext.imm _ _ hi)
   ·have ho':o' < n0:=by rw [← hn]; exact (List.getElem?_eq_some_iff.1 h7).1
    rcases jG (hs.ext.im _ _ _ hi) with hi2 | ⟨o2,l2,c2,s2,ht2,h72,_⟩
    ·exact him _ hi2
    ·have:=hinj _ _ h72 rfl
     rw [ht1] at ht2
     cases ht2
     omega
  refine ⟨⟨fun t b o hi=>?_,hs.ext.im,hs.ext.obj,hs.ext.full,hs.ext.tok⟩,fun k hk hno=>?_,by rw [hsize]; exact hs.size,hos.1.trans hs.os,hos.2.1.trans hs.tape,⟨hos.2.2.1.trans hs.output.1,by rw [hos.2.2.2]; exact hs.output.2⟩,hs.imm2,hs.blk⟩
  ·rw [← hs.ext.cells t b o hi]
   refine fF (hother b ?_) o
   rintro rfl
   exact hb0 _ _ hi
  ·rw [← hs.heap k hk hno]
   refine hother k ?_
   rintro rfl
   rcases hs.blk _ _ _ hg rfl with h1 | ⟨o,g1,h1,h2⟩
   ·omega
   ·exact hno o g1 h1 h2
 refine ⟨w',G,_,?_,hk,hstep,hobjs ▸ hm2,?_,hf.sat.defers⟩
 ·simp [Instr.storeAt,Instr.sureAddr,storeVar,e1,dL hj,hul,hjs,hrun]
 ·refine ⟨by rw [List.length_set,hT1]; exact hf.sat.tmps.1,fun q x u hx hu=>?_⟩
  rw [List.getElem?_set] at hx
  by_cases hdq:d=q
  ·subst hdq
   rw [List.getElem?_eq_getElem hdl] at hu
   cases hu
   split at hx
   ·split at hx
    ·cases hx
     cases hv with
     | sl _ _ _ hsl htk=>
      have hve:=tok_of htk
      rw [hve] at hsl ⊢
      obtain ⟨a1,c1,hee,hn1,hc,hor⟩:=hsl
      simp only [Value.slice.injEq] at hee
      obtain ⟨rfl,_,rfl⟩:=hee
      rcases hor with rfl | ⟨b2,st2,sz2,ha,hrw⟩
      ·simp at hil
      cases ha
      have hsz2:sz2=sz':=by rw [← hrw.1 i r hr,hrl]
      subst hsz2
      refine .sl _ _ _ ⟨_,_,by rw [List.length_set],by rw [List.length_set]; exact hn1,hc,.inr ⟨_,_,sz2,rfl,?_,?_⟩⟩ ?_
      ·intro q r1 h1
       rw [List.getElem?_set] at h1
       split at h1
       ·rename_i hiq
        subst hiq
        cases h1
        simp only [List.length_append,List.length_take,List.length_drop]; omega
       ·exact hrw.1 q r1 h1
      ·intro q p r1 dd h1 h2
       rw [hcell]
       have hqp:∀ r1',rows[q]?=some r1'→p < sz2→∃ x,w.cell? ⟨b',0 + q * sz2 + p,none⟩=some x∧G.im (.own pre.length) b' (0 + q * sz2 + p)∧(∀ dd,r1'[p]?=some dd→eX w G.imm dd x):=by
        intro r1' h3 hp
        have hl3:=hrw.1 q r1' h3
        obtain ⟨x,k1,k2,k3⟩:=hrw.2 q p r1' _ h3 (List.getElem?_eq_getElem (by omega))
        refine ⟨x,k1,k2,fun dd hdd=>?_⟩
        rw [List.getElem?_eq_getElem (by omega)] at hdd
        cases hdd; exact k3
       have hmono:∀ {dd x},eX w G.imm dd x→eX w' G.imm dd x:=fun h=>h.mono (fun bb oo hi=>fF (hother bb (by rintro rfl; exact him _ hi)) oo) (fun _ _ h=>h)
       rw [List.getElem?_set] at h1
       split at h1
       ·rename_i hiq
        subst hiq
        cases h1
        have hpl:p < sz2:=by
         have:=(List.getElem?_eq_some_iff.1 h2).1
         simp only [List.length_append,List.length_take,List.length_drop] at this
         omega
        obtain ⟨x,k1,k2,k3⟩:=hqp r hr hpl
        rw [Ow r ds off p (by omega)] at h2
        split at h2
        ·rename_i hpp
         rw [if_pos (by omega)]
         have hpe:0 + i * sz2 + p - (i * sz2 + off)=p - off:=by omega
         rw [hpe]
         have hpu:p - off < us.length:=by omega
         have hpx:p - off < xs.length:=by omega
         refine ⟨us[p - off],List.getElem?_eq_getElem hpu,k2,hmono ?_⟩
         exact Mv (hdl2 _ _ _ (List.getElem?_eq_getElem hpx) h2) (e4 _ _ _ (List.getElem?_eq_getElem hpx) (List.getElem?_eq_getElem hpu))
        ·rename_i hpp
         rw [if_neg (by omega)]
         exact ⟨x,k1,k2,hmono (k3 _ h2)⟩
       ·rename_i hiq
        have hl1:=hrw.1 q r1 h1
        have hpl:p < sz2:=by rw [← hl1]; exact (List.getElem?_eq_some_iff.1 h2).1
        obtain ⟨x,k1,k2,k3⟩:=hqp r1 h1 hpl
        have hdis:¬ (i * sz2 + off≤0 + q * sz2 + p∧0 + q * sz2 + p < i * sz2 + off + us.length):=by
         rintro ⟨m1,m2⟩
         rcases Nat.lt_or_gt_of_ne hiq with hlt | hlt
         ·have:(i + 1) * sz2≤q * sz2:=Nat.mul_le_mul_right _ hlt
          rw [Nat.succ_mul] at this
          omega
         ·have:(q + 1) * sz2≤i * sz2:=Nat.mul_le_mul_right _ hlt
          rw [Nat.succ_mul] at this
          omega
        rw [if_neg hdis]
        exact ⟨x,k1,k2,hmono (k3 _ h2)⟩
      ·rw [List.length_set]
       exact .inr ⟨_,_,_,_,_,hg,Nat.le_refl _,fun _=>rfl⟩
    ·cases hx
   ·rename_i hne; exact absurd rfl hne
  ·rw [if_neg hdq] at hx
   have hlt:=dM hT3 q x hx
   rcases hT2 q x hx with rfl | hx'
   ·exact .any u
   ·have h1:=(hf.sat.tmps.2 q x u hx' hu).trunc hlt
    have h2:=h1.mono hextt
    have h3:=h2.mono (rW ⟨G.bl.take pre.length,G.imm⟩ w' (.tok b' rows.length c sz' true))
    rw [← hGe] at h3
    exact h3
inductive AX where
 | normal | exit (id:Nat) | ret
def AX.ok:AX→Exit→Prop
 | .normal,.normal=>True
 | .exit i,.exit j=>i=j
 | .ret,.ret=>True
 | _,_=>False
def cH (n0:Nat) (s s':AS):Prop :=
 ∀ (_:Df) G0 w0 G a w,G0.bl.length=n0→dH G0 w0 G s a w→∃ G',dH G0 w0 G' s' a w
theorem cH.refl (n0:Nat) (s:AS):cH n0 s s:=fun _ _ _ G _ _ _ h=>⟨G,h⟩
theorem cH.trans {n0:Nat}{s1 s2 s3:AS} (h:cH n0 s1 s2) (k:cH n0 s2 s3):cH n0 s1 s3 :=
 fun _ G0 w0 G a w hn hf=>let ⟨G',hf'⟩:=h _ G0 w0 G a w hn hf; k _ G0 w0 G' a w hn hf'
def rD (n0:Nat) (s:AS) (next:AS→Prop):Prop :=
 ∀ (_:Df) G0 w0 G a w,G0.bl.length=n0→dH G0 w0 G s a w→∃ s' G',dH G0 w0 G' s' a w∧next s'
theorem rD.of {n0:Nat}{s s':AS}{next:AS→Prop} (h:cH n0 s s') (k:next s'):rD n0 s next :=
 fun _ G0 w0 G a w hn hf=>let ⟨G',hf'⟩:=h _ G0 w0 G a w hn hf; ⟨s',G',hf',k⟩
theorem rD.pre {n0:Nat}{s s1:AS}{next:AS→Prop} (h:cH n0 s s1) (k:rD n0 s1 next):rD n0 s next :=
 fun _ G0 w0 G a w hn hf=>let ⟨G',hf'⟩:=h _ G0 w0 G a w hn hf; k _ G0 w0 G' a w hn hf'
def qI (n0:Nat) (next:AS→Prop) (Q:AX→AS→Prop):AX→AS→Prop
 | .normal,s=>rD n0 s next
 | .exit i,s=>Q (.exit i) s
 | .ret,s=>Q .ret s
def qS (id:Nat) (Q:AX→AS→Prop):AX→AS→Prop
 | .normal,s=>Q .normal s
 | .exit i,s=>if i=id then Q .normal s else Q (.exit i) s
 | .ret,s=>Q .ret s
def vY (n0:Nat) (I:Nat→AS→Prop) (n:Nat) (Q:AX→AS→Prop):AX→AS→Prop
 | .normal,s=>∃ m s',cH n0 s s'∧m < n∧I m s'
 | .exit i,s=>Q (.exit i) s
 | .ret,s=>Q .ret s
def Yg (P:Program) (ops:Array Oper) (s:AS) (K:AS→Prop):Prop :=
 P.follows .mixedOrders=true∧((Region.lexB .any ops=true∧(f5 P ops.toList ops.toList s K ∨ eZ P ops ops.toList s K)) ∨
  (∃ m,Me ops m=true∧eZ P ops (ops.toList.take m) s (fun s'=>dB P ops.toList (ops.toList.drop m) s' K (fun _ _=>False))) ∨ Pe P ops s K ∨
  ∃ (hs ea:List Nat) (r:List (Bool × Nat)),r.length=ops.size∧vJ ops r (Array.replicate ops.size false)=true∧Cn P ops hs ea K r s)
inductive Tr where
 | lf | pf (i:Nat) (t:Tr) | nd (i:Nat) (t r:Tr)
def Tr.keys:Tr→List Nat
 | .nd i _ r=>i :: r.keys
 | _=>[]
mutual
def trB (ops:Array Oper) (W:List Nat):Nat→Tr→Array Bool→Bool
 | _,.lf,listed=>(Region.ready .any ops listed).isEmpty
 | f + 1,.pf i t,listed=>(Region.ready .any ops listed).contains i && Region.free .any ops listed i && (match ops[i]? with | some o=>(match o.dst with | some d=>W.contains d | none=>false) | none=>false) && trB ops W f t (listed.setIfInBounds i true)
 | f + 1,.nd i t r,listed=>Region.ready .any ops listed == i :: r.keys && trB ops W f t (listed.setIfInBounds i true) && P2 ops W f r listed
 | 0,_,_=>false
def P2 (ops:Array Oper) (W:List Nat):Nat→Tr→Array Bool→Bool
 | _,.lf,_=>true
 | f,.nd i t r,listed=>trB ops W f t (listed.setIfInBounds i true) && P2 ops W f r listed
 | _,.pf ..,_=>false
end
def GM (P:Program) (o:Oper) (s:AS) (y:AV):Prop :=
 match o.op with
 | .move x=>y=s.eval x
 | .assign x=>y=s.eval x
 | .nilCheck x=>∃ o' off,s.eval x=.ptr o' off∧y=.ptr o' off
 | .fieldAddr t x f=>∃ o' off off',s.eval x=.ptr o' off∧y=.ptr o' off'∧iM P t f (.ptr o' off) (fun r=>r=y)
 | _=>False
theorem Pg [Df] {P:Program}{o:Oper}{s:AS}{y:AV}{G:aL}{a:Act}{w:World} (h:GM P o s y) (hs:Sat G s a w):∃ u,(∀ w',(execOp a.eval o).run P w'=.ok (.value u) w')∧aR G w y u:=by
 unfold GM at h
 split at h
 ·rename_i x ho
  subst h
  exact ⟨a.eval x,fun w'=>by simp [execOp,ho],hs.eval x⟩
 ·rename_i x ho
  subst h
  exact ⟨a.eval x,fun w'=>by simp [execOp,ho],hs.eval x⟩
 ·rename_i x ho
  obtain ⟨o',off,h1,rfl⟩:=h
  have hc:=hs.eval x
  rw [h1] at hc
  obtain ⟨u,hu⟩:∃ u,u=a.eval x:=⟨_,rfl⟩
  rw [← hu] at hc
  cases hc with
  | ptr _ _ b hb=>exact ⟨_,fun w'=>by simp [execOp,ho,← hu],.ptr o' off b hb⟩
 ·rename_i t x f ho
  obtain ⟨o',off,off',h1,rfl,h2⟩:=h
  have hc:=hs.eval x
  rw [h1] at hc
  have hall:∀ w',∃ r,(Instr.fieldAt t (a.eval x) f).run P w'=.ok r w'∧aR G w' (.ptr o' off') r:=by
   intro w'
   have hc':aR G w' (.ptr o' off) (a.eval x):=by
    generalize a.eval x=u at hc
    cases hc with
    | ptr _ _ b hb=>exact .ptr o' off b hb
   obtain ⟨r,y,k1,k2,rfl⟩:=s6 (P:=P) h2 hc'
   exact ⟨r,k1,k2⟩
  obtain ⟨r0,_,hr0⟩:=hall w
  obtain ⟨b,hb⟩:∃ b,G.bl[o']?=some (.obj b):=by
   cases hr0 with
   | ptr _ _ b hb=>exact ⟨b,hb⟩
  refine ⟨.pointer (some ⟨b,off',none⟩),fun w'=>?_,.ptr o' off' b hb⟩
  obtain ⟨r,k1,k2⟩:=hall w'
  cases k2 with
  | ptr _ _ b' hb'=>
   rw [hb] at hb'; cases hb'
   simp [execOp,ho,k1]
 ·exact h.elim
def Cz (xs:List AV):List Nat→List AV
 | []=>xs
 | i :: is=>Cz (xs.set i .any) is
def AS.kill (s:AS) (W:List Nat):AS:=⟨Cz s.tmps W,s.objs⟩
theorem DY {G:aL}{w:World}:∀ {W:List Nat}{xs:List AV}{vs:List Value},cQ G w xs vs→cQ G w (Cz xs W) vs
 | [],_,_,h=>h
 | i :: W,xs,vs,h=>DY (W:=W) (by
  refine ⟨by simpa using h.1,fun k x v hx hv=>?_⟩
  rw [List.getElem?_set] at hx
  by_cases hik:i=k
  ·subst hik
   rw [if_pos rfl] at hx
   split at hx
   ·cases hx; exact .any v
   ·cases hx
  ·rw [if_neg hik] at hx; exact h.2 k x v hx hv)
theorem JO:∀ (W:List Nat) (xs:List AV),(Cz xs W).length=xs.length
 | [],_=>rfl
 | i :: W,xs=>by simp [Cz,JO W]
theorem JY {d:Nat}:∀ {W:List Nat}{xs:List AV}{x:AV},d ∈ W ∨ xs[d]?=some .any→(Cz xs W)[d]?=some x→x=.any
 | [],xs,x,h,hx=>by
  rcases h with h | h
  ·cases h
  ·simp only [Cz] at hx; rw [h] at hx; cases hx; rfl
 | i :: W,xs,x,h,hx=>by
  refine JY (W:=W) (xs:=xs.set i .any) ?_ hx
  by_cases hid:i=d
  ·subst hid
   right
   have hl:i < xs.length:=by
    have:=(List.getElem?_eq_some_iff.1 hx).1
    rw [JO] at this; simpa using this
   rw [List.getElem?_set,if_pos rfl,if_pos hl]
  ·rcases h with h | h
   ·rcases List.mem_cons.1 h with h | h
    ·exact absurd h.symm hid
    ·exact .inl h
   ·right; rw [List.getElem?_set,if_neg hid]; exact h
theorem S7 [Df] {G0 G:aL}{w0 w:World}{s:AS}{a:Act}{W:List Nat}{d:Nat}{v:Value} (hd:d ∈ W) (h:dH G0 w0 G (s.kill W) (a.put (some d) v) w):dH G0 w0 G (s.kill W) a w:=by
 refine ⟨h.step,h.sat.mem,?_,?_⟩
 ·have ht:=h.sat.tmps
  rw [Act.put_toList] at ht
  refine ⟨by have:=ht.1; rwa [List.length_set] at this,fun k x u hx hu=>?_⟩
  by_cases hk:d=k
  ·subst hk
   have:=JY (.inl hd) hx
   subst this; exact .any u
  ·exact ht.2 k x u hx (by rw [List.getElem?_set,if_neg hk]; exact hu)
 ·have:=h.sat.defers; rwa [Act.put_defers] at this
mutual
def gX (P:Program) (ops:Array Oper) (W:List Nat) (K:AS→Prop) (E:AV→AS→Prop):Tr→AS→Prop
 | .lf,s=>K s
 | .pf i t,s=>∃ o y,ops[i]?=some o∧o.guard=none∧GM P o s y∧gX P ops W K E t (s.put o.dst y)
 | .nd i t r,s=>(∃ o,ops[i]?=some o∧o.guard=none∧aop P o s (gX P ops W K E t) (fun x s'=>E x (s'.kill W)))∧vE P ops W K E r s
def vE (P:Program) (ops:Array Oper) (W:List Nat) (K:AS→Prop) (E:AV→AS→Prop):Tr→AS→Prop
 | .nd i t r,s=>(∃ o,ops[i]?=some o∧o.guard=none∧aop P o s (gX P ops W K E t) (fun x s'=>E x (s'.kill W)))∧vE P ops W K E r s
 | _,_=>True
end
def QT [Df] (W:List Nat) (K:AS→Prop) (E:AV→AS→Prop) (G0:aL) (w0:World) (e:Exit) (a:Act) (w:World):Prop :=
 (e=.normal∧∃ s G,K s∧dH G0 w0 G s a w) ∨ ∃ (x:AV) (s:AS) (G:aL) (v:Value),E x (s.kill W)∧dH G0 w0 G (s.kill W) a w∧aR G w x v∧e=.panic [{ v,recovered:=false }]
theorem VC [Df] {W:List Nat}{K:AS→Prop}{E:AV→AS→Prop}{G0:aL}{w0:World}{d:Nat}{v:Value} (hd:d ∈ W) (c:List PanicEntry) (a:Act) (w:World) (h:QT W K E G0 w0 (.panic c) (a.put (some d) v) w):QT W K E G0 w0 (.panic c) a w:=by
 rcases h with ⟨h,_⟩ | ⟨x,s,G,u,h1,h2,h3,h4⟩
 ·cases h
 ·exact .inr ⟨x,s,G,u,h1,S7 hd h2,h3,h4⟩
mutual
theorem vD [Df] {P:Program}{ops:Array Oper}{W:List Nat}{K:AS→Prop}{E:AV→AS→Prop}{G0:aL}{w0:World} (hsel:∀ (j:Nat) (o:Oper) cs b,ops[j]?=some o→o.op ≠ .select cs b) :
  ∀ (tr:Tr) (fuel:Nat) (listed:Array Bool) (G:aL) (s:AS) (a:Act) (w:World),trB ops W fuel tr listed=true→gX P ops W K E tr s→dH G0 w0 G s a w→wpAny P .any ops (QT W K E G0 w0) fuel listed a w
 | .lf,fuel,listed,G,s,a,w,hB,h,hf=>by
  have hr:Region.ready .any ops listed=[]:=by cases fuel <;> simpa [trB] using hB
  have hq:QT W K E G0 w0 .normal a w:=.inl ⟨rfl,s,G,by simpa [gX] using h,hf⟩
  cases fuel with
  | zero=>exact ⟨hr,hq⟩
  | succ f=>exact ⟨fun _=>hq,fun i hi=>by rw [hr] at hi; cases hi⟩
 | .pf i t,0,listed,G,s,a,w,hB,h,hf=>by simp [trB] at hB
 | .pf i t,f + 1,listed,G,s,a,w,hB,h,hf=>by
  simp only [gX] at h
  obtain ⟨o,y,ho,hg,hp,hrest⟩:=h
  simp only [trB,ho,Bool.and_eq_true] at hB
  obtain ⟨⟨⟨hr,hfr⟩,hd⟩,hB⟩:=hB
  cases hdo:o.dst with
  | none=>rw [hdo] at hd; cases hd
  | some d=>
   rw [hdo] at hd
   simp only at hd
   obtain ⟨u,hu,hc⟩:=Pg hp hf.sat
   have hy:Yields P ops o u a:=.inl ⟨by simp [Region.wanted,hg],hu⟩
   refine wpAny_first ho hsel ?_ f listed a w (Region.free_spec ho hfr) (by simpa using hr) hy ?_
   ·intro c a' w' hq
    rw [hdo] at hq
    exact VC (by simpa using hd) c a' w' hq
   ·exact vD hsel t f _ G _ _ w hB hrest ⟨hf.step,hf.sat.put0 o.dst hc⟩
 | .nd i t r,0,listed,G,s,a,w,hB,h,hf=>by simp [trB] at hB
 | .nd i t r,f + 1,listed,G,s,a,w,hB,h,hf=>by
  simp only [gX] at h
  simp only [trB,Bool.and_eq_true,beq_iff_eq] at hB
  obtain ⟨⟨hr,hB1⟩,hB2⟩:=hB
  refine ⟨fun h0=>(by rw [hr] at h0; cases h0),fun j hj=>?_⟩
  rw [hr] at hj
  rcases List.mem_cons.1 hj with rfl | hj
  ·obtain ⟨⟨o,ho,hg,hy⟩,_⟩:=h
   unfold wpOp
   simp only [ho]
   rw [if_pos (by simp [Region.wanted,hg])]
   refine .inl (Oper.wp_mono ?_ (nA hy hf.sat fun x s' G' v w' h1 h2 h3 h4=>.inr ⟨x,s',G',v,h1,⟨hf.step.trans h3,h2.mem,DY h2.tmps,h2.defers⟩,h4,rfl⟩))
   rintro a' w' ⟨s',G',h1,h2,h3⟩
   exact vD hsel t f _ G' s' a' w' hB1 h1 ⟨hf.step.trans h3,h2⟩
  ·exact FO hsel r f listed G s a w hB2 h.2 hf j hj
theorem FO [Df] {P:Program}{ops:Array Oper}{W:List Nat}{K:AS→Prop}{E:AV→AS→Prop}{G0:aL}{w0:World} (hsel:∀ (j:Nat) (o:Oper) cs b,ops[j]?=some o→o.op ≠ .select cs b) :
  ∀ (r:Tr) (f:Nat) (listed:Array Bool) (G:aL) (s:AS) (a:Act) (w:World),P2 ops W f r listed=true→vE P ops W K E r s→dH G0 w0 G s a w→∀ j ∈ r.keys,wpOp P ops (QT W K E G0 w0) j (wpAny P .any ops (QT W K E G0 w0) f (listed.setIfInBounds j true)) a w
 | .lf,f,listed,G,s,a,w,hB,h,hf,j,hj=>by simp [Tr.keys] at hj
 | .pf _ _,f,listed,G,s,a,w,hB,h,hf,j,hj=>by simp [Tr.keys] at hj
 | .nd i t r,f,listed,G,s,a,w,hB,h,hf,j,hj=>by
  simp only [vE] at h
  simp only [P2,Bool.and_eq_true] at hB
  rcases List.mem_cons.1 hj with rfl | hj
  ·obtain ⟨⟨o,ho,hg,hy⟩,_⟩:=h
   unfold wpOp
   simp only [ho]
   rw [if_pos (by simp [Region.wanted,hg])]
   refine .inl (Oper.wp_mono ?_ (nA hy hf.sat fun x s' G' v w' h1 h2 h3 h4=>.inr ⟨x,s',G',v,h1,⟨hf.step.trans h3,h2.mem,DY h2.tmps,h2.defers⟩,h4,rfl⟩))
   rintro a' w' ⟨s',G',h1,h2,h3⟩
   exact vD hsel t f _ G' s' a' w' hB.1 h1 ⟨hf.step.trans h3,h2⟩
  ·exact FO hsel r f listed G s a w hB.2 h.2 hf j hj
end
def awp (P:Program) (n0:Nat):Code→AS→(AX→AS→Prop)→(AV→AS→Prop)→Prop
 | .skip,s,Q,_=>Q .normal s
 | .region _ ops draw,s,Q,E=>(draw=false→dB P ops.toList ops.toList s (Q .normal) E ∨ ∃ (rs:List Oper) (o:Oper),ops.toList=rs ++ [o]∧dB P ops.toList rs s (fun s1=>PU P n0 o s1 (Q .normal)) E)∧(draw=true→Yg P ops s (Q .normal) ∨ (P.follows .mixedOrders=true∧Region.noSelect ops=true∧∃ W tr,trB ops W ops.size tr (Array.replicate ops.size false)=true∧gX P ops W (Q .normal) E tr s))
 | .seq a b,s,Q,E=>awp P n0 a s (qI n0 (fun s'=>awp P n0 b s' Q E) Q) E
 | .cond c t e,s,Q,E=>(match s.eval c with | .v (.bool b)=>(b=true→awp P n0 t s Q E)∧(b=false→awp P n0 e s Q E) | _=>False)
 | .block id c,s,Q,E=>awp P n0 c s (qS id Q) E
 | .loop c,s,Q,E=>∃ I:Nat→AS→Prop,(∃ n s',cH n0 s s'∧I n s')∧∀ n s',I n s'→awp P n0 c s' (vY n0 I n Q) E
 | .exit id,s,Q,_=>Q (.exit id) s
 | .ret,s,Q,_=>Q .ret s
 | .scope c,s,Q,E=>awp P n0 c s Q E
 | .label _,s,Q,_=>Q .normal s
 | _,_,_,_=>False
theorem SK {P:Program}{Q:Exit→Act→World→Prop}{c:Code} (I:Nat→Act→World→Prop)
  (round:∀ n a w,I n a w→c.wp P (Exit.then (fun a' w'=>∃ m,m < n∧I m a' w') Q) a w) {n:Nat}{a:Act}{w:World} (h₀:I n a w):(Code.loop c).wp P Q a w:=by
 intro b k cs
 have key:∀ n a w,I n a w →
   ∃ e a' w',Q e a' w'∧Arrives P (lone (b.at a (.code c :: .inLoop c :: k)) cs w) b k cs e a' w':=by
  intro n
  induction n using Nat.strongRecOn with
  | _ n ih=>
   intro a w hI
   obtain ⟨e,a₁,w₁,hq,harr⟩:=round n a w hI b (.inLoop c :: k) cs
   cases e with
   | normal=>
    obtain ⟨m,hlt,hI₁⟩:=hq
    obtain ⟨e₂,a₂,w₂,hq₂,harr₂⟩:=ih m hlt a₁ w₁ hI₁
    exact ⟨e₂,a₂,w₂,hq₂,.of_steps (Steps.trans harr (.one step_inLoop)) harr₂⟩
   | exit id=>exact ⟨_,a₁,w₁,hq,.pass (x:=.inLoop c) rfl (fun _ _=>.inl (by simp)) harr⟩
   | goto l=>exact ⟨_,a₁,w₁,hq,.pass (x:=.inLoop c) rfl (fun _ _=>.inl (by simp)) harr⟩
   | ret=>exact ⟨_,a₁,w₁,hq,.pass (x:=.inLoop c) rfl (fun _ _=>.inl (by simp)) harr⟩
   | panic ch=>exact ⟨_,a₁,w₁,hq,.pass (x:=.inLoop c) rfl (fun _ _=>.inl (by simp)) harr⟩
   | outgrown=>exact ⟨_,a₁,w₁,hq,.pass (x:=.inLoop c) rfl (fun _ _=>.inl (by simp)) harr⟩
 obtain ⟨e,a',w',hq,harr⟩:=key _ a w h₀
 exact ⟨e,a',w',hq,.of_steps (.one step_loop) harr⟩
def QOk [Df] (G0:aL) (w0:World) (Q:AX→AS→Prop) (E:AV→AS→Prop) (e:Exit) (a:Act) (w:World):Prop :=
 (∃ ax s G,Q ax s∧ax.ok e∧dH G0 w0 G s a w) ∨
 (∃ x s G v,E x s∧dH G0 w0 G s a w∧aR G w x v∧e=.panic [{ v,recovered:=false }])
theorem dH.drew [Df] {G0:aL}{w0:World}{G:aL}{s:AS}{a:Act}{w:World} (h:dH G0 w0 G s a w):dH G0 w0 G s a w.drew:=by
 obtain ⟨s1,s2⟩:=gP.step h.sat.mem ((gP.refl w).drew) (imm':=G.imm) (fun _ _ h=>h) (fun _ _ h=>.inl h)
 exact ⟨h.step.trans s1,⟨s2,h.sat.tmps.mono s1.ext,h.sat.defers⟩⟩
theorem jB [Df] {P:Program}{n0:Nat}{G0:aL}{w0:World} (hn:G0.bl.length=n0) {E:AV→AS→Prop}
  (hsch:∀ (ops:Array Oper) t,∀ i ∈ Region.schedule (P.follows .mixedOrders) ops t,i < ops.size) :
  ∀ (c:Code) (s:AS) (Q:AX→AS→Prop) (G:aL) (a:Act) (w:World),awp P n0 c s Q E→dH G0 w0 G s a w→c.wp P (QOk G0 w0 Q E) a w
 | .skip,s,Q,G,a,w,h,hf=>wp_skip (.inl ⟨.normal,s,G,h,trivial,hf⟩)
 | .exit id,s,Q,G,a,w,h,hf=>wp_exit (.inl ⟨.exit id,s,G,h,rfl,hf⟩)
 | .ret,s,Q,G,a,w,h,hf=>wp_ret (.inl ⟨.ret,s,G,h,trivial,hf⟩)
 | .region id ops false,s,Q,G,a,w,h,hf=>by
  refine wp_region_list ?_
  rcases h.1 rfl with h | ⟨rs,o,hops,h⟩
  ·have:=PL (P:=P) (ops:=ops.toList) (G0:=G0) (w0:=w0) (K:=Q .normal) (E:=E) (Q:=QOk G0 w0 Q E)
    (fun s G a w h1 h2=>.inl ⟨.normal,s,G,h1,trivial,h2⟩) (fun x s G v a w h1 h2 h3=>.inr ⟨x,s,G,v,h1,h2,h3,rfl⟩) ops.toList s G a w h hf
   simpa using this
  ·have:=kE (P:=P) (ops:=ops.toList) (G0:=G0) (w0:=w0) (K:=fun s1=>PU P n0 o s1 (Q .normal)) (E:=E) (Q:=QOk G0 w0 Q E) (tl:=[o])
    (fun s G a w h1 h2=>by
     obtain ⟨hg,t,ax,xx,hop,hdst,w',G',s',hrun,hk,hf'⟩:=NZ hn h1 h2
     refine wpList_step fun K' hK'=>?_
     rw [if_pos (by simp [Region.wanted,hg])]
     unfold Oper.wp
     simp only [execOp,hop,Sem.run_bind,hrun,Result.andThen_ok,Sem.run_pure,Oper.upon]
     refine hK' _ _ (.inl ⟨.normal,s',G',hk,trivial,?_⟩)
     rw [hdst]
     exact hf') (fun x s G v a w h1 h2 h3=>.inr ⟨x,s,G,v,h1,h2,h3,rfl⟩) rs s G a w h hf
   rw [← hops] at this
   simpa using this
 | .region id ops true,s,Q,G,a,w,h,hf=>by
  have hd:=hf.drew
  rcases h.2 rfl with h | ⟨h1,hsl,W,tr,hB,h2⟩
  case inr=>
   refine wp_mono (wp_region_any h1 (vD (G0:=G0) (w0:=w0) (Region.noSelect_spec hsl) tr _ _ G s a _ hB h2 hd)) ?_
   rintro e a' w' (⟨rfl,s',G',k1,k2⟩ | ⟨x,s',G',v,k1,k2,k3,rfl⟩)
   ·exact .inl ⟨.normal,s',G',k1,trivial,k2⟩
   ·exact .inr ⟨x,_,G',v,k1,k2,k3,rfl⟩
  obtain ⟨h1,⟨h2,h3⟩ | ⟨m,h2,h3⟩ | h4 | ⟨hs,ea,r,k1,k2,k4⟩⟩:=h
  case inr.inr.inr=>exact Nx (G0:=G0) (w0:=w0) (G:=G) (s:=s) h1 k1 k2 (fun G s a w k1 k2=>.inl ⟨.normal,s,G,k1,trivial,k2⟩) k4 hd
  case inr.inr.inl=>
   refine wp_mono (Lj (Q':=QOk G0 w0 Q (fun _ _=>False)) (G0:=G0) (w0:=w0) (G:=G) (s:=s) h1 (fun G s a w k1 k2=>.inl ⟨.normal,s,G,k1,trivial,k2⟩) (fun c d u a w hq=>by
    rcases hq with ⟨ax,s,G,_,h2,_⟩ | ⟨_,_,_,_,h1,_⟩
    ·cases ax <;> exact h2.elim
    ·exact h1.elim) h4 hd) ?_
   rintro e a w (hq | ⟨_,_,_,_,h1,_⟩)
   ·exact .inl hq
   ·exact h1.elim
  case inr.inl=>exact NW (G0:=G0) (w0:=w0) (G:=G) (s:=s) h1 h2 (fun G s a w k1 k2=>.inl ⟨.normal,s,G,k1,trivial,k2⟩) (fun x objs G v a w hf=>hf.elim) h3 hd
  rcases h3 with h3 | h3
  ·refine wp_region_quiet (C:=fun w'=>w'=w.drew) h1 h2 rfl ?_
   have:=qW (P:=P) (ops:=ops.toList) (K:=Q .normal) (G:=G) (w:=w.drew) (Q:=fun a'=>∀ w',w'=w.drew→QOk G0 w0 Q E .normal a' w')
    (fun s a' k1 k2 w' hw'=>by subst hw'; exact .inl ⟨.normal,s,G,k1,trivial,hd.step,k2⟩) ops.toList s a h3 hd.sat
   simpa using this
  ·exact Nq (G0:=G0) (w0:=w0) (G:=G) (s:=s) h1 h2 (fun G s a w k1 k2 k3=>.inl ⟨.normal,s,G,k1,trivial,k2,k3⟩) h3 hd.step hd.sat
 | .seq x y,s,Q,G,a,w,h,hf=>by
  refine wp_seq ?_
  refine wp_mono (jB hn hsch x s _ G a w h hf) ?_
  rintro e a' w' (⟨ax,s',G',h1,h2,h3⟩ | hp)
  ·cases ax <;> cases e <;> first | exact h2.elim | skip
   ·obtain ⟨s1,G1,hf1,h1⟩:=h1 _ G0 w0 G' a' w' hn h3
    exact jB hn hsch y s1 Q G1 a' w' h1 hf1
   ·exact .inl ⟨_,s',G',h1,h2,h3⟩
   ·exact .inl ⟨_,s',G',h1,h2,h3⟩
  ·obtain ⟨x',s',G',v,h1,h2,h3,rfl⟩:=hp
   exact .inr ⟨x',s',G',v,h1,h2,h3,rfl⟩
 | .cond c x y,s,Q,G,a,w,h,hf=>by
  simp only [awp] at h
  split at h
  ·rename_i b hb
   have hv:=fP (hb ▸ hf.sat.eval c)
   exact wp_cond_split hv (fun hb=>jB hn hsch x s Q G a w (h.1 hb) hf) (fun hb=>jB hn hsch y s Q G a w (h.2 hb) hf)
  ·exact h.elim
 | .block id c,s,Q,G,a,w,h,hf=>by
  refine wp_block ?_
  refine wp_mono (jB hn hsch c s _ G a w h hf) ?_
  rintro e a' w' (⟨ax,s',G',h1,h2,h3⟩ | hp)
  ·cases ax with
   | normal=>cases e <;> first | exact h2.elim | exact .inl ⟨.normal,s',G',h1,trivial,h3⟩
   | ret=>cases e <;> first | exact h2.elim | exact .inl ⟨.ret,s',G',h1,trivial,h3⟩
   | exit i=>
    cases e <;> first | exact h2.elim | skip
    rename_i j
    cases h2
    simp only [qS] at h1
    simp only [Exit.inBlock]
    split
    ·rename_i hij
     rw [if_pos hij] at h1
     exact .inl ⟨.normal,s',G',h1,trivial,h3⟩
    ·rename_i hij
     rw [if_neg hij] at h1
     exact .inl ⟨.exit i,s',G',h1,rfl,h3⟩
  ·obtain ⟨x',s',G',v,h1,h2,h3,rfl⟩:=hp
   exact .inr ⟨x',s',G',v,h1,h2,h3,rfl⟩
 | .loop c,s,Q,G,a,w,h,hf=>by
  obtain ⟨I,⟨n,s1,hw1,hI⟩,hround⟩:=h
  obtain ⟨G1,hf1⟩:=hw1 _ G0 w0 G a w hn hf
  refine SK (fun n a w=>∃ s G,I n s∧dH G0 w0 G s a w) ?_ (n:=n) ⟨s1,G1,hI,hf1⟩
  rintro n a w ⟨s',G',hI',hf'⟩
  refine wp_mono (jB hn hsch c s' _ G' a w (hround n s' hI') hf') ?_
  rintro e a' w' (⟨ax,s2,G2,h1,h2,h3⟩ | hp)
  ·cases ax <;> cases e <;> first | exact h2.elim | skip
   ·obtain ⟨m,s3,hw3,hlt,hI3⟩:=h1
    obtain ⟨G3,hf3⟩:=hw3 _ G0 w0 G2 a' w' hn h3
    exact ⟨m,hlt,s3,G3,hI3,hf3⟩
   ·exact .inl ⟨_,s2,G2,h1,h2,h3⟩
   ·exact .inl ⟨_,s2,G2,h1,h2,h3⟩
  ·obtain ⟨x',s',G',v,h1,h2,h3,rfl⟩:=hp
   exact .inr ⟨x',s',G',v,h1,h2,h3,rfl⟩
 | .rangeFunc ..,_,_,_,_,_,h,_=>h.elim
 | .scope c,s,Q,G,a,w,h,hf=>by
  refine wp_scope_straight (wp_mono (jB hn hsch c s Q G a w h hf) ?_)
  rintro e a1 w1 (⟨ax,s1,G1,h1,h2,h3⟩ | hp)
  ·cases e with
   | goto l=>cases ax <;> cases h2
   | _=>exact .inl ⟨ax,s1,G1,h1,h2,h3⟩
  ·obtain ⟨x,s1,G1,v,h1,h2,h3,rfl⟩:=hp
   exact .inr ⟨x,s1,G1,v,h1,h2,h3,rfl⟩
 | .label _,s,Q,G,a,w,h,hf=>wp_label (.inl ⟨.normal,s,G,h,trivial,hf⟩)
 | .goto ..,_,_,_,_,_,h,_=>h.elim
 | .refuse ..,_,_,_,_,_,h,_=>h.elim
theorem zF (m:Region.Mode) (ops:Array Oper):∀ (fuel t:Nat) (listed:Array Bool) (acc:List Nat),(∀ i ∈ acc,i < ops.size)→∀ i ∈ Region.linearise.go m ops fuel t listed acc,i < ops.size
 | 0,t,listed,acc,h,i,hi=>by
  simp only [Region.linearise.go,List.mem_reverse] at hi
  exact h i hi
 | fuel + 1,t,listed,acc,h,i,hi=>by
  simp only [Region.linearise.go] at hi
  split at hi
  ·rename_i j hj
   refine zF m ops fuel _ _ _ ?_ i hi
   intro q hq
   rcases List.mem_cons.1 hq with rfl | hq
   ·have:=List.mem_of_getElem? hj
    simp only [List.mem_filter,List.mem_range] at this
    exact this.1
   ·exact h q hq
  ·simp only [List.mem_reverse] at hi
   exact h i hi
theorem qQ (mixed:Bool) (ops:Array Oper) (t:Nat):∀ i ∈ Region.schedule mixed ops t,i < ops.size:=by
 intro i hi
 unfold Region.schedule at hi
 split at hi
 ·exact zF _ ops _ _ _ _ (by simp) i hi
 ·exact zF _ ops _ _ _ _ (by simp) i hi
def GL (P:Program) (objs:List Obj) (t:TypeId) (x:AV):Option AV :=
 match ti P t,x with
 | some i,.ptr o off=>
  match objs[o]? with
  | some (.box cells)=>
   if off + i.size≤cells.length then (if i.isAgg then some (.agg ((cells.drop off).take i.size)) else if i.size=1 then some (cells.getD off .any) else none) else none
  | _=>none
 | _,_=>none
def L9 (P:Program) (s:AS):ResultVar→Option AV
 | .tmp t=>some (s.tmps.getD t .any)
 | .cell a t=>GL P s.objs t (s.tmps.getD a .any)
def uK (P:Program) (s:AS):List ResultVar→Option (List AV)
 | []=>some []
 | r :: rs=>
  match L9 P s r,uK P s rs with
  | some x,some xs=>some (x :: xs)
  | _,_=>none
def Dg:List AV→AV
 | [x]=>x
 | xs=>.tup xs
def vN (P:Program) (s:AS) (rs:List ResultVar):Option AV:=(uK P s rs).map Dg
theorem NJ {P:Program}{G:aL}{objs:List Obj}{w:World}{t:TypeId}{x y:AV}{v:Value} (h:GL P objs t x=some y) (hm:Mem G objs w) (hx:aR G w x v) :
  ∃ r ad,v=.pointer (some ad)∧(loadVar t ad).run P w=.ok r w∧aR G w y r:=by
 have hl:kK P objs t x (fun z=>z=y):=by
  unfold GL at h
  unfold kK
  split at h
  ·rename_i i o off hi
   simp only [hi]
   split at h
   ·rename_i cells hob
    simp only [hob]
    split at h
    ·rename_i hle
     refine ⟨hle,?_⟩
     split at h
     ·rename_i ha; rw [if_pos ha]; exact Option.some.inj h
     ·rename_i ha
      rw [if_neg ha]
      split at h
      ·rename_i h1; exact ⟨h1,Option.some.inj h⟩
      ·cases h
    ·cases h
   ·cases h
  ·cases h
 obtain ⟨r,z,h1,h2,rfl⟩:=CZ (P:=P) hl hm hx
 have:∃ ad,v=.pointer (some ad):=by
  unfold GL at h
  split at h
  ·rename_i i o off hi
   cases hx with
   | ptr _ _ b hb=>exact ⟨_,rfl⟩
  ·cases h
 obtain ⟨ad,rfl⟩:=this
 refine ⟨r,ad,rfl,?_,h2⟩
 simpa [Instr.loadAt,Instr.sureAddr] using h1
theorem HH [Df] {P:Program}{G:aL}{s:AS}{a:Act}{w:World} (hs:Sat G s a w):∀ {rs:List ResultVar}{xs:List AV},uK P s rs=some xs →
  ∃ vs,(rs.mapM (fun | .tmp t=>pure (a.tmps.getD t undef) | .cell p t=>do loadVar t (← asAddr (a.tmps.getD p undef)):ResultVar→Sem Value)).run P w=.ok vs w∧cQ G w xs vs
 | [],xs,h=>by cases h; exact ⟨[],by simp,rfl,fun i x v hx=>by simp at hx⟩
 | r :: rs,xs,h=>by
  simp only [uK] at h
  cases h1:L9 P s r with
  | none=>simp [h1] at h
  | some x=>
   cases h2:uK P s rs with
   | none=>simp [h1,h2] at h
   | some xs'=>
    simp only [h1,h2,Option.some.injEq] at h
    subst h
    obtain ⟨vs,k1,k2⟩:=HH hs h2
    have hone:∃ v,((fun | .tmp t=>pure (a.tmps.getD t undef) | .cell p t=>do loadVar t (← asAddr (a.tmps.getD p undef)):ResultVar→Sem Value) r).run P w=.ok v w∧aR G w x v:=by
     cases r with
     | tmp t=>
      cases h1
      exact ⟨_,rfl,hs.raw (.tmp t)⟩
     | cell p t=>
      have hp:=hs.raw (.tmp p)
      obtain ⟨r',ad,e1,e2,e3⟩:=NJ (P:=P) h1 hs.mem hp
      refine ⟨r',?_,e3⟩
      have e1':a.tmps.getD p undef=.pointer (some ad):=e1
      simp only [e1',asAddr,Sem.run_bind,Sem.run_pure,Result.andThen_ok]
      exact e2
    obtain ⟨v,e1,e2⟩:=hone
    refine ⟨v :: vs,?_,by simp [k2.1],fun i y u hy hu=>?_⟩
    ·simp only [List.mapM_cons,Sem.run_bind,e1,Result.andThen_ok,k1,Sem.run_pure]
    ·cases i with
     | zero=>simp at hy hu; subst hy; subst hu; exact e2
     | succ i=>exact k2.2 i y u (by simpa using hy) (by simpa using hu)
theorem FE [Df] {P:Program}{G:aL}{s:AS}{a:Act}{w:World} (hs:Sat G s a w) {fn:Func}{x:AV} (h:vN P s fn.results.toList=some x) :
  ∃ v,(results fn a.tmps).run P w=.ok v w∧aR G w x v:=by
 unfold vN at h
 cases h1:uK P s fn.results.toList with
 | none=>simp [h1] at h
 | some xs=>
  simp only [h1,Option.map_some,Option.some.injEq] at h
  subst h
  obtain ⟨vs,k1,k2⟩:=HH hs h1
  have hrun:(fn.results.mapM (fun | .tmp t=>pure (a.tmps.getD t undef) | .cell p t=>do loadVar t (← asAddr (a.tmps.getD p undef)):ResultVar→Sem Value)).run P w=.ok vs.toArray w:=by
   rw [← Array.toArray_toList (xs:=fn.results),List.mapM_toArray]
   change Sem.run P (do let a ← List.mapM _ fn.results.toList; pure a.toArray) w=_
   rw [Sem.run_bind,k1]
   rfl
  refine ⟨if h:vs.toArray.size=1 then vs.toArray[0] else .tuple vs.toArray,?_,?_⟩
  ·unfold results
   rw [Sem.run_bind]
   exact congrArg (fun r:Result (Array Value)=>r.andThen fun (a:Array Value) w'=>Sem.run P (pure (if h:a.size=1 then a[0] else .tuple a)) w') hrun
  ·match xs,vs,k2 with
   | [],[],_=>exact .tup [] [] rfl (fun i c v hc=>by simp at hc)
   | [x],[v],k2=>exact k2.2 0 x v rfl rfl
   | x :: y :: xs,u :: v :: vs,k2=>
    have:¬ ((u :: v :: vs).toArray.size=1):=by simp
    rw [dif_neg this]
    exact .tup _ _ k2.1 k2.2
   | [],_ :: _,k2=>exact absurd k2.1 (by simp)
   | [_],[],k2=>exact absurd k2.1 (by simp)
   | [_],_ :: _ :: _,k2=>exact absurd k2.1 (by simp)
   | _ :: _ :: _,[],k2=>exact absurd k2.1 (by simp)
   | _ :: _ :: _,[_],k2=>exact absurd k2.1 (by simp)
def fG (P:Program) (n0:Nat) (rs:List ResultVar) (R:gC→List Obj→Prop):AX→AS→Prop
 | .exit _,_=>False
 | _,s=>∃ x,vN P s rs=some x∧∃ x' objs',cH n0 ⟨[x],s.objs⟩ ⟨[x'],objs'⟩∧R (.ret x') objs'
theorem cZ.of_awp {P:Program}{f:Nat}{fn:Func}{c:Code}{args:List AV}{objs:List Obj}{R:gC→List Obj→Prop} (hf:P.funcs[f]?=some fn) (hb:fn.body=some c)
  (h:awp P objs.length c ⟨args ++ List.replicate (fn.ntmps - args.length) .any,objs⟩ (fG P objs.length fn.results.toList R) (fun x s'=>R (.pan x) s'.objs)):cZ P f args objs R:=by
 letI:Df:=⟨[]⟩
 intro G w vs hm hc
 refine calls_of_wp hf hb ?_
 have hsat:Sat G ⟨args ++ List.replicate (fn.ntmps - args.length) .any,objs⟩ { tmps:=vs.toArray ++ Array.replicate (fn.ntmps - vs.toArray.size) undef,defers:=[] } w:=by
  refine ⟨hm,?_,rfl⟩
  have:=hc.append (ys:=List.replicate (fn.ntmps - args.length) .any) (vs:=List.replicate (fn.ntmps - args.length) undef) ⟨by simp,fun i x v hx hv=>by
   rw [List.getElem?_replicate] at hx
   split at hx
   ·cases hx; exact .any v
   ·cases hx⟩
  simpa [hc.1] using this
 refine wp_mono (jB hm.len (fun ops t i hi=>qQ _ ops t i hi) c _ _ G _ w h ⟨bO.refl G w,hsat⟩) ?_
 rintro e a' w' (⟨ax,s',G',h1,h2,h3⟩ | ⟨x,s',G',v,h1,h2,h3,rfl⟩)
 ·have key:(∃ x,vN P s' fn.results.toList=some x∧∃ x' objs',cH objs.length ⟨[x],s'.objs⟩ ⟨[x'],objs'⟩∧R (.ret x') objs')→a'.defers=[]∧∃ v,(results fn a'.tmps).run P w'=.ok v w' ∧
    ∃ ae objs' G',R ae objs'∧Mem G' objs' w'∧bO G w G' w'∧AG G' w' ae (.returned v):=by
   rintro ⟨x,k2,x',objs',k1,k3⟩
   obtain ⟨v,hv,hcv⟩:=FE (P:=P) h3.sat k2
   have hone:dH G w G' ⟨[x],s'.objs⟩ { tmps:=#[v],defers:=[] } w':=⟨h3.step,h3.sat.mem,⟨rfl,fun i y u hy hu=>by
    cases i with
    | zero=>simp at hy hu; subst hy; subst hu; exact hcv
    | succ i=>simp at hy⟩,rfl⟩
   obtain ⟨G'',hf''⟩:=k1 _ G w G' _ w' hm.len hone
   have hcv':=hf''.sat.tmps.2 0 x' v rfl rfl
   exact ⟨h3.sat.defers,v,hv,.ret x',objs',G'',k3,hf''.sat.mem,hf''.step,hcv'⟩
  cases ax <;> cases e <;> first | exact h2.elim | skip
  ·exact key h1
  ·exact h1.elim
  ·exact key h1
 ·exact ⟨h2.sat.defers,.pan x,s'.objs,G',h1,h2.sat.mem,h2.step,v,rfl,h3⟩
def AV.le0 (x y:AV):Prop :=
 y=.any ∨ x=y ∨ (∃ rows t,x=.sl rows t∧t.isOwn=false∧y=.sl rows .none) ∨ (x=.v (.slice none 0 0)∧(y=.sl [] .none ∨ y=.sl [] .exact))
def AV.le0L:List AV→List AV→Prop
 | [],[]=>True
 | x :: xs,y :: ys=>x.le0 y∧AV.le0L xs ys
 | _,_=>False
def AV.le (x y:AV):Prop:=x.le0 y ∨ ∃ cs ds,x=.agg cs∧y=.agg ds∧AV.le0L cs ds
theorem AV.le_any (x:AV):x.le .any:=.inl (.inl rfl)
theorem AV.le_refl (x:AV):x.le x:=.inl (.inr (.inl rfl))
theorem AV.le_sl (rows:List (List D)):(AV.sl rows .exact).le (.sl rows .none):=.inl (.inr (.inr (.inl ⟨rows,.exact,rfl,rfl,rfl⟩)))
theorem AV.le_sln (rows:List (List D)) (t:Tk) (h:t.isOwn=false):(AV.sl rows t).le (.sl rows .none):=.inl (.inr (.inr (.inl ⟨rows,t,rfl,h,rfl⟩)))
theorem AV.le_nil:(AV.v (.slice none 0 0)).le (.sl [] .none):=.inl (.inr (.inr (.inr ⟨rfl,.inl rfl⟩)))
theorem AV.le_agg {cs ds:List AV} (h:AV.le0L cs ds):(AV.agg cs).le (.agg ds):=.inr ⟨cs,ds,rfl,rfl,h⟩
theorem AV.le0_refl (x:AV):x.le0 x:=.inr (.inl rfl)
theorem AV.le0_nil:(AV.v (.slice none 0 0)).le0 (.sl [] .none):=.inr (.inr (.inr ⟨rfl,.inl rfl⟩))
theorem AV.le0_sl (rows:List (List D)) (t:Tk) (h:t.isOwn=false):(AV.sl rows t).le0 (.sl rows .none):=.inr (.inr (.inl ⟨rows,t,rfl,h,rfl⟩))
theorem AV.le0_sound {G:aL}{w:World}{x y:AV}{v:Value} (h:x.le0 y) (hc:aR G w x v):aR G w y v:=by
 rcases h with rfl | rfl | ⟨rows,t,rfl,ho,rfl⟩ | ⟨rfl,rfl | rfl⟩
 ·exact .any v
 ·exact hc
 ·cases hc with
  | sl _ _ _ hd _=>exact .sl _ .none _ (by rw [Ds G (t:=.none) (t':=t) rfl ho]; exact hd) trivial
 ·cases hc; exact .sl [] .none _ (SlC.nil none 0 (by simp [maxLen])) trivial
 ·cases hc; exact .sl [] .exact _ (SlC.nil none 0 (by simp [maxLen])) ⟨none,rfl⟩
theorem AV.le0L_len:∀ {xs ys:List AV},AV.le0L xs ys→xs.length=ys.length
 | [],[],_=>rfl
 | _ :: xs,_ :: ys,h=>by simp [AV.le0L_len (xs:=xs) (ys:=ys) h.2]
 | [],_ :: _,h=>h.elim
 | _ :: _,[],h=>h.elim
theorem AV.le0L_get:∀ {xs ys:List AV},AV.le0L xs ys→∀ (i:Nat) (x y:AV),xs[i]?=some x→ys[i]?=some y→x.le0 y
 | [],[],_,i,x,y,h,_=>by simp at h
 | a :: xs,b :: ys,h,0,x,y,h1,h2=>by simp at h1 h2; subst h1; subst h2; exact h.1
 | a :: xs,b :: ys,h,i + 1,x,y,h1,h2=>AV.le0L_get (xs:=xs) (ys:=ys) h.2 i x y (by simpa using h1) (by simpa using h2)
 | [],_ :: _,h,_,_,_,_,_=>h.elim
 | _ :: _,[],h,_,_,_,_,_=>h.elim
theorem AV.le_sound {G:aL}{w:World}{x y:AV}{v:Value} (h:x.le y) (hc:aR G w x v):aR G w y v:=by
 rcases h with h | ⟨cs,ds,rfl,rfl,h⟩
 ·exact AV.le0_sound h hc
 ·cases hc with
  | agg _ vs hl h1 h2=>
   refine .agg ds vs (by rw [hl,AV.le0L_len h]) h1 fun i c u hcc hu=>?_
   have hi:i < cs.length:=by rw [AV.le0L_len h]; exact (List.getElem?_eq_some_iff.1 hcc).1
   exact AV.le0_sound (AV.le0L_get h i cs[i] c (List.getElem?_eq_getElem hi) hcc) (h2 i cs[i] u (List.getElem?_eq_getElem hi) hu)
def AV.leL:List AV→List AV→Prop
 | [],[]=>True
 | x :: xs,y :: ys=>x.le y∧AV.leL xs ys
 | _,_=>False
theorem AV.leL_sound {G:aL}{w:World}:∀ {xs ys:List AV}{vs:List Value},AV.leL xs ys→cQ G w xs vs→cQ G w ys vs
 | [],[],_,_,h=>h
 | x :: xs,y :: ys,vs,hl,h=>by
  obtain ⟨h1,h2⟩:=hl
  cases vs with
  | nil=>exact absurd h.1 (by simp)
  | cons v vs=>
   have ih:=AV.leL_sound (vs:=vs) h2 ⟨by simpa using h.1,fun i c u hc hu=>h.2 (i + 1) c u (by simpa using hc) (by simpa using hu)⟩
   refine ⟨by simp [ih.1],fun i c u hc hu=>?_⟩
   cases i with
   | zero=>simp at hc hu; subst hc; subst hu; exact AV.le_sound h1 (h.2 0 x v rfl rfl)
   | succ i=>exact ih.2 i c u (by simpa using hc) (by simpa using hu)
 | [],_ :: _,_,h,_=>h.elim
 | _ :: _,[],_,h,_=>h.elim
theorem cH.le {n0:Nat}{s:AS}{tmps:List AV} (h:AV.leL s.tmps tmps):cH n0 s ⟨tmps,s.objs⟩ :=
 fun _ _ _ G _ _ _ hf=>⟨G,hf.step,hf.sat.mem,AV.leL_sound h hf.sat.tmps,hf.sat.defers⟩
theorem cH.drop {n0:Nat}{s:AS} (objs extra:List Obj) (ho:s.objs=objs ++ extra) (hn:n0≤objs.length) (h1:AV.idsLtL objs.length s.tmps=true) (h2:cM objs.length objs=true) :
  cH n0 s ⟨s.tmps,objs⟩:=by
 intro _ G0 w0 G a w hn0 hf
 refine ⟨⟨G.bl.take objs.length,G.imm⟩,?_,?_,?_,hf.sat.defers⟩
 ·have key:∀ (o:Nat) (g:GB),G0.bl[o]?=some g→o < objs.length:=by
   intro o g hg
   have:o < G0.bl.length:=by
    rcases Nat.lt_or_ge o G0.bl.length with h | h
    ·exact h
    ·rw [List.getElem?_eq_none h] at hg; cases hg
   omega
  refine ⟨⟨hf.step.ext.cells,?_,fun o b h=>fA (key o _ h) (hf.step.ext.obj o b h),?_,?_⟩,hf.step.heap,hf.step.size,hf.step.os,hf.step.tape,hf.step.output,hf.step.imm2,?_⟩
  ·intro t b off ht
   have h':=hf.step.ext.im t b off ht
   rcases jG ht with hi | ⟨o,len,cap,sz,rfl,h1,_⟩
   ·exact aL.imm_im _ t (hf.step.ext.imm b off hi)
   ·exact C9 (by simp only [Tk.idsLt,decide_eq_true_eq]; exact key o _ h1) h'
  ·intro o l h
   rcases hf.step.ext.full o l h with h' | ⟨b,l',c,sz,ex,h',hlt⟩
   ·exact .inl (fA (key o _ h) h')
   ·exact .inr ⟨b,l',c,sz,ex,fA (key o _ h) h',hlt⟩
  ·intro o b l c sz ex h
   obtain ⟨b',l',c',sz',ex',h',hx⟩:=hf.step.ext.tok o b l c sz ex h
   exact ⟨b',l',c',sz',ex',fA (key o _ h) h',hx⟩
  ·intro o g b h hb
   exact hf.step.blk o g b (dT h).2 hb
 ·have hm:=hf.sat.mem
  have hlen:G.bl.length=objs.length + extra.length:=by rw [hm.len,ho,List.length_append]
  refine ⟨by simp; omega,?_,?_,?_,hm.immLt⟩
  ·intro o x g hx hg
   obtain ⟨hol,hg'⟩:=dT hg
   have hx':s.objs[o]?=some x:=by rw [ho,List.getElem?_append_left hol]; exact hx
   have hok:=hm.ok o x g hx' hg'
   have hb:=rB h2 o x hx
   cases x with
   | box cells=>
    rcases hok with hok | ⟨b,c,e,e1,e2,e3,e4,e5⟩
    ·exact .inl hok
    exact .inr ⟨b,c,e,e1,e2,e3,fun j x v hj hv=>⟨(e4 j x v hj hv).1,(e4 j x v hj hv).2.trunc (dM (by simpa [Obj.idsLt] using hb) j x hj)⟩,e5⟩
   | tok len sz e ex=>exact hok
   | map es=>
    obtain ⟨b,ents,clock,e1,e2,e3,e4,e5,e6⟩:=hok
    refine ⟨b,ents,clock,e1,e2,e3,fun i k y e hi he=>⟨(e4 i k y e hi he).1,(e4 i k y e hi he).2.1.trunc ?_,(e4 i k y e hi he).2.2⟩,e5,e6⟩
    have hall:es.all (fun e=>e.2.idsLt objs.length)=true:=hb
    exact List.all_eq_true.1 hall _ (List.mem_of_getElem? hi)
   | mapB bs clock es=>
    obtain ⟨b,ents,e1,e2,e3,e4,e5,e7,e6⟩:=hok
    refine ⟨b,ents,e1,e2,e3,fun i k y e hi he=>⟨(e4 i k y e hi he).1,(e4 i k y e hi he).2.1.trunc ?_,(e4 i k y e hi he).2.2⟩,e5,e7,e6⟩
    have hall:es.all (fun e=>e.2.idsLt objs.length)=true:=hb
    exact List.all_eq_true.1 hall _ (List.mem_of_getElem? hi)
   | iter m since seen=>
    obtain ⟨b,mb,e1,e2,e3,e4⟩:=hok
    exact ⟨b,mb,e1,fA (by simpa [Obj.idsLt] using hb) e2,e3,e4⟩
   | siter s pos=>exact hok
   | bld e buf=>
    obtain ⟨b,c0,c1,e1,e2,e3,e4,e5,e6⟩:=hok
    exact ⟨b,c0,c1,e1,e2,e3,e4,e5.trunc (by simpa [Obj.idsLt] using hb),e6⟩
   | lin v sz e rows=>exact hok
   | dead=>exact hok
  ·intro o o' g g' b h1 h2; exact hm.inj o o' g g' b (dT h1).2 (dT h2).2
  ·intro o g b h; exact hm.lt o g b (dT h).2
 ·exact ⟨hf.sat.tmps.1,fun i x v hx hv=>(hf.sat.tmps.2 i x v hx hv).trunc (dM h1 i x hx)⟩
theorem cH.tok {n0:Nat}{s:AS} (i sz e:Nat) (ex:Bool) (h:s.tmps[i]?=some (.v (.slice none 0 0))) :
  cH n0 s ⟨s.tmps.set i (.sl [] (.own s.objs.length)),s.objs ++ [.tok 0 sz e ex]⟩:=by
 intro _ G0 w0 G a w hn0 hf
 have hm:=hf.sat.mem
 have hst:=hf.step.push (.full 0) (by intro b hb; cases hb)
 refine ⟨⟨G.bl ++ [.full 0],G.imm⟩,hst,Mem.push hm (.inl ⟨rfl,fun _=>rfl⟩) (by intro b hb; cases hb),?_,hf.sat.defers⟩
 have hmono:=hf.sat.tmps.mono (rW G w (.full 0))
 have hi:i < a.tmps.toList.length:=by
  rw [hf.sat.tmps.1]
  rcases Nat.lt_or_ge i s.tmps.length with hl | hl
  ·exact hl
  ·rw [List.getElem?_eq_none hl] at h; cases h
 have hv:=hf.sat.tmps.2 i _ _ h (List.getElem?_eq_getElem hi)
 have hv':=fP hv
 have:=hmono.set i (x:=.sl [] (.own s.objs.length)) (v:=.slice none 0 0) (.sl [] _ _ (SlC.nil none 0 (by simp [maxLen])) (.inl ⟨0,by rw [← hm.len]; simp,Nat.le_refl _,fun _=>⟨none,rfl,fun _=>rfl⟩⟩))
 have hself:a.tmps.toList.set i (.slice none 0 0)=a.tmps.toList:=fZ (by rw [List.getElem?_eq_getElem hi,hv'])
 rwa [hself] at this
def kQ (K:AS→Prop) (Q:AX→AS→Prop):AX→AS→Prop
 | .normal,s=>K s
 | .exit i,s=>Q (.exit i) s
 | .ret,s=>Q .ret s
section rules
variable {P:Program}{n0:Nat}{Q:AX→AS→Prop}{E:AV→AS→Prop}{s:AS}
theorem PZ {id:Nat}{l:List Oper} (h:dB P l l s (Q .normal) E):awp P n0 (.region id l.toArray false) s Q E:=⟨fun _=>.inl h,fun h=>by cases h⟩
theorem N7 {id:Nat}{l:List Oper} (h1:P.follows .mixedOrders=true) (h2:Region.lexB .any l.toArray=true) (h:f5 P l l s (Q .normal)):awp P n0 (.region id l.toArray true) s Q E:=⟨fun h=>(by cases h),fun _=>.inl ⟨h1,.inl ⟨h2,.inl h⟩⟩⟩
theorem Nm {id:Nat}{l:List Oper} (h1:P.follows .mixedOrders=true) (h2:Region.lexB .any l.toArray=true) (h:eZ P l.toArray l s (Q .normal)):awp P n0 (.region id l.toArray true) s Q E:=⟨fun h=>(by cases h),fun _=>.inl ⟨h1,.inl ⟨h2,.inr h⟩⟩⟩
theorem Nn {id:Nat}{l:List Oper} (m:Nat) (h1:P.follows .mixedOrders=true) (h2:Me l.toArray m=true) (h:eZ P l.toArray (l.take m) s (fun s'=>dB P l (l.drop m) s' (Q .normal) (fun _ _=>False))):awp P n0 (.region id l.toArray true) s Q E:=⟨fun h=>(by cases h),fun _=>.inl ⟨h1,.inr (.inl ⟨m,h2,h⟩)⟩⟩
theorem NS {id:Nat}{l:List Oper} (h1:P.follows .mixedOrders=true) (h:Pe P l.toArray s (Q .normal)):awp P n0 (.region id l.toArray true) s Q E:=⟨fun h=>(by cases h),fun _=>.inl ⟨h1,.inr (.inr (.inl h))⟩⟩
theorem NQ {id:Nat}{l:List Oper}{hs ea:List Nat}{r:List (Bool × Nat)} (h1:P.follows .mixedOrders=true) (h2:Nat.beq r.length l.length=true) (h3:vJ l.toArray r (Array.replicate l.toArray.size false)=true) (h:Cn P l.toArray hs ea (Q .normal) r s):awp P n0 (.region id l.toArray true) s Q E :=
 ⟨fun h=>(by cases h),fun _=>.inl ⟨h1,.inr (.inr (.inr ⟨hs,ea,r,by rw [Nat.eq_of_beq_eq_true h2]; simp,h3,h⟩))⟩⟩
theorem KN {id:Nat}{l:List Oper}{W:List Nat}{tr:Tr} (h1:P.follows .mixedOrders=true) (h2:Region.noSelect l.toArray=true) (h3:trB l.toArray W l.toArray.size tr (Array.replicate l.toArray.size false)=true) (h:gX P l.toArray W (Q .normal) E tr s):awp P n0 (.region id l.toArray true) s Q E:=⟨fun h=>(by cases h),fun _=>.inr ⟨h1,h2,W,tr,h3,h⟩⟩
theorem LZ {c:Operand}{t e:Code}{b:Bool} (hc:s.eval c=.v (.bool b)) (ht:b=true→awp P n0 t s Q E) (hf:b=false→awp P n0 e s Q E):awp P n0 (.cond c t e) s Q E:=by
 simp only [awp,hc]; exact ⟨ht,hf⟩
end rules
def Te (xs:List AV):List Nat→List AV
 | []=>xs
 | i :: is=>Te (xs.set i .any) is
def Wc (xs:List AV):List (Nat × AV)→List AV
 | []=>xs
 | (i,x) :: is=>Wc (xs.set i x) is
mutual
def AV.strip:AV→AV
 | .sl rows _=>.sl rows .none
 | .agg cs=>.agg (AV.stripL cs)
 | x=>x
def AV.stripL:List AV→List AV
 | []=>[]
 | x :: xs=>x.strip :: AV.stripL xs
end
def cW (objs:List Obj) (o:Nat):List Obj :=
 match objs[o]? with
 | some (.tok l sz e _)=>objs.set o (.tok l sz e false)
 | _=>objs
mutual
def AV.pub (objs:List Obj):AV→List Obj
 | .sl _ (.own o)=>cW objs o
 | .agg cs=>AV.pubL objs cs
 | _=>objs
def AV.pubL (objs:List Obj):List AV→List Obj
 | []=>objs
 | x :: xs=>AV.pubL (x.pub objs) xs
end
theorem Fw {G:aL}{objs:List Obj}{w:World} (hm:Mem G objs w) (o:Nat):∃ G',bO G w G' w∧Mem G' (cW objs o) w ∧
  ∀ b off,G.im (.own o) b off→(∃ l sz e ex,objs[o]?=some (.tok l sz e ex))→G'.imm b off:=by
 unfold cW
 cases ho:objs[o]? with
 | none=>exact ⟨G,bO.refl G w,hm,fun b off _ ⟨l,sz,e,ex,h⟩=>by cases h⟩
 | some x=>
  cases x with
  | tok l sz e ex=>
   simp only
   obtain ⟨g,hg,hok⟩:=hm.obj ho
   have hlb:o < G.bl.length:=by rw [hm.len]; exact hm.lt_objs ho
   rcases hok with ⟨rfl,hl⟩ | ⟨b,cap,cur,rfl,hh,h1,h2,h3,h4,h5⟩
   ·refine ⟨⟨G.bl.set o (.full l),G.imm⟩,?_,?_,?_⟩
    ·rw [fZ hg]; exact bO.refl G w
    ·refine Mem.own_set hm (by intro b hb; cases hb) (.inl ⟨rfl,fun h=>by cases h⟩) ?_ hm.immLt.1 (fun _ _ _ _ _ _ _ h=>h)
     rw [fZ hg]; exact Ext.refl G w
    ·rintro b off (h | ⟨len,cap,sz',h1,_⟩) _
     ·exact h
     ·rw [hg] at h1; cases h1
   ·let imm':Nat→Nat→Prop:=fun b' off=>G.imm b' off ∨ (b'=b∧off < l * sz)
    have hself:(G.bl.set o (.tok b l cap sz false))[o]?=some (.tok b l cap sz false):=by rw [List.getElem?_set,if_pos rfl,if_pos hlb]
    have hext:Ext G w ⟨G.bl.set o (.tok b l cap sz false),imm'⟩ w:=by
     refine Iv (fun _ _ h=>.inl h) hg ?_ (.inr ⟨_,_,_,_,_,rfl,_,_,_,_,_,rfl,.inr ⟨rfl,rfl,rfl⟩⟩)
     rintro b' off (h | ⟨len,c,s,k1,k2⟩)
     ·exact .inl (.inl h)
     ·rw [hg] at k1; cases k1
      exact .inl (.inr ⟨rfl,k2⟩)
    refine ⟨⟨G.bl.set o (.tok b l cap sz false),imm'⟩,⟨hext,fun _ _ _=>rfl,Nat.le_refl _,rfl,rfl,⟨rfl,Nat.le_refl _⟩,?_,?_⟩,?_,?_⟩
    ·rintro b' off (h | ⟨rfl,_⟩)
     ·exact .inl h
     ·exact .inr (.inr ⟨o,_,hg,rfl⟩)
    ·intro o' g' b' hg' hb'
     rcases Bw hg' with ⟨rfl,rfl⟩ | ⟨_,hg'⟩
     ·simp [GB.blk] at hb'; subst hb'; exact .inr ⟨_,_,hg,rfl⟩
     ·exact .inr ⟨o',g',hg',hb'⟩
    ·refine Mem.own_set hm ?_ (.inr ⟨b,cap,cur,rfl,hh,h1,h2,h3,fun h=>(by cases h),?_⟩) hext ?_ ?_
     ·intro b' hb'
      simp [GB.blk] at hb'
      subst hb'
      refine ⟨hm.lt o _ b hg rfl,fun o' g' hne hg' hbb=>hne (hm.inj o' o _ _ _ hg' hg hbb rfl)⟩
     ·intro _ off h
      rcases h with h | ⟨_,h⟩
      ·cases ex
       ·exact h5 rfl off h
       ·exact (h4 rfl off h).elim
      ·exact h
     ·rintro b' off (h | ⟨rfl,_⟩)
      ·exact hm.immLt.1 b' off h
      ·exact hm.lt o _ _ hg rfl
     ·intro o' g' b' hne hg' hbb off h
      rcases h with h | ⟨rfl,_⟩
      ·exact h
      ·exact (hne (hm.inj o' o _ _ _ hg' hg hbb rfl)).elim
    ·rintro b' off (h | ⟨len,c,s,k1,k2⟩) _
     ·exact .inl h
     ·rw [hg] at k1; cases k1
      exact .inr ⟨rfl,k2⟩
  | _=>exact ⟨G,bO.refl G w,hm,fun b off _ ⟨l,sz,e,ex,h⟩=>by cases h⟩
theorem Ul {G:aL}{objs:List Obj}{w:World} (hm:Mem G objs w) {n o:Nat}{v:Value} (h:zH G n v (.own o)):G.im (.own o)=G.imm ∨ ∃ l sz e ex,objs[o]?=some (.tok l sz e ex):=by
 rcases h with ⟨l,h1,_⟩ | ⟨b,l,c,sz,ex,h1,_⟩
 ·left
  funext b off
  refine propext ⟨fun h=>?_,fun h=>.inl h⟩
  rcases h with h | ⟨len,cap,sz,h2,_⟩
  ·exact h
  ·rw [h1] at h2; cases h2
 ·cases ex with
  | false=>
   left
   funext b off
   refine propext ⟨fun h=>?_,fun h=>.inl h⟩
   rcases h with h | ⟨len,cap,sz,h2,_⟩
   ·exact h
   ·rw [h1] at h2; cases h2
  | true=>
   right
   have hl:o < objs.length:=by
    rw [← hm.len]
    rcases Nat.lt_or_ge o G.bl.length with h | h
    ·exact h
    ·rw [List.getElem?_eq_none h] at h1; cases h1
   have hok:=hm.ok o _ _ (List.getElem?_eq_getElem hl) h1
   cases hx:objs[o] with
   | tok l' sz' e' ex'=>exact ⟨l',sz',e',ex',by rw [List.getElem?_eq_getElem hl,hx]⟩
   | box cells=>
    rw [hx] at hok
    rcases hok with ⟨_,l,h⟩ | ⟨_,_,_,h,_⟩ <;> cases h
   | map es=>rw [hx] at hok; obtain ⟨_,_,_,h,_⟩:=hok; cases h
   | mapB bs clock es=>rw [hx] at hok; obtain ⟨_,_,h,_⟩:=hok; cases h
   | iter m since seen=>rw [hx] at hok; obtain ⟨_,_,h,_⟩:=hok; cases h
   | siter s pos=>rw [hx] at hok; obtain ⟨_,h,_⟩:=hok; cases h
   | bld e buf=>rw [hx] at hok; obtain ⟨_,_,_,h,_⟩:=hok; cases h
   | lin v sz e rows=>
    rw [hx] at hok
    rcases hok with ⟨_,_,h⟩ | ⟨_,_,_,h,_⟩ <;> cases h
   | dead=>rw [hx] at hok; exact (hok _ _ _ _ rfl).elim
mutual
theorem Qf {w:World}:∀ (x:AV) (G:aL) (objs:List Obj),Mem G objs w →
  ∃ G',bO G w G' w∧Mem G' (x.pub objs) w∧∀ v,aR G w x v→aR G' w x.strip v
 | .sl rows (.own o),G,objs,hm=>by
  obtain ⟨G',h1,h2,h3⟩:=Fw hm o
  refine ⟨G',h1,h2,fun v hc=>?_⟩
  cases hc with
  | sl _ _ _ hd ht=>
   refine .sl rows .none _ ?_ trivial
   refine hd.mono (fun _ _ _=>rfl) (fun b off h=>?_) (fun _ _ _=>rfl) h1.ext.imm
   rcases Ul hm ht with he | he
   ·rw [he] at h; exact h1.ext.imm b off h
   ·exact h3 b off h he
 | .sl rows .none,G,objs,hm=>⟨G,bO.refl G w,hm,fun v hc=>hc⟩
 | .sl rows .exact,G,objs,hm=>⟨G,bO.refl G w,hm,fun v hc=>AV.le_sound (AV.le_sl rows) hc⟩
 | .agg cs,G,objs,hm=>by
  obtain ⟨G',h1,h2,h3⟩:=mJ cs G objs hm
  refine ⟨G',h1,h2,fun v hc=>?_⟩
  cases hc with
  | agg _ vs hl hone hcc=>
   obtain ⟨k1,k2⟩:=h3 vs ⟨hl,hcc⟩
   simp only [AV.strip]
   exact .agg _ vs k1 hone k2
 | .v x,G,objs,hm=>⟨G,bO.refl G w,hm,fun v hc=>hc⟩
 | .tup cs,G,objs,hm=>⟨G,bO.refl G w,hm,fun v hc=>hc⟩
 | .ptr ..,G,objs,hm=>⟨G,bO.refl G w,hm,fun v hc=>hc⟩
 | .ep ..,G,objs,hm=>⟨G,bO.refl G w,hm,fun v hc=>hc⟩
 | .bsl ..,G,objs,hm=>⟨G,bO.refl G w,hm,fun v hc=>hc⟩
 | .map ..,G,objs,hm=>⟨G,bO.refl G w,hm,fun v hc=>hc⟩
 | .fn ..,G,objs,hm=>⟨G,bO.refl G w,hm,fun v hc=>hc⟩
 | .cnd ..,G,objs,hm=>⟨G,bO.refl G w,hm,fun v hc=>hc⟩
 | .any,G,objs,hm=>⟨G,bO.refl G w,hm,fun v hc=>hc⟩
theorem mJ {w:World}:∀ (xs:List AV) (G:aL) (objs:List Obj),Mem G objs w →
  ∃ G',bO G w G' w∧Mem G' (AV.pubL objs xs) w∧∀ vs,cQ G w xs vs→cQ G' w (AV.stripL xs) vs
 | [],G,objs,hm=>⟨G,bO.refl G w,hm,fun vs hc=>hc⟩
 | x :: xs,G,objs,hm=>by
  obtain ⟨G1,h1,h2,h3⟩:=Qf x G objs hm
  obtain ⟨G2,k1,k2,k3⟩:=mJ xs G1 (x.pub objs) h2
  refine ⟨G2,h1.trans k1,k2,fun vs hc=>?_⟩
  cases vs with
  | nil=>exact absurd hc.1 (by simp)
  | cons v vs=>
   have hx:=(h3 v (hc.2 0 x v rfl rfl)).mono k1.ext
   have hrest:cQ G w xs vs:=⟨by simpa using hc.1,fun i c u hc' hu=>hc.2 (i + 1) c u (by simpa using hc') (by simpa using hu)⟩
   obtain ⟨e1,e2⟩:=k3 vs (hrest.mono h1.ext)
   refine ⟨by simp [AV.stripL,e1],fun i c u hc' hu=>?_⟩
   cases i with
   | zero=>simp [AV.stripL] at hc' hu; subst hc'; subst hu; exact hx
   | succ i=>exact e2 i c u (by simpa [AV.stripL] using hc') (by simpa using hu)
end
theorem cZ.strip {P:Program}{f:Nat}{args:List AV}{objs:List Obj}{R:gC→List Obj→Prop} (h:cZ P f (AV.stripL args) (AV.pubL objs args) R):cZ P f args objs R:=by
 intro G w vs hm hc
 obtain ⟨G1,h1,h2,h3⟩:=mJ args G objs hm
 refine (h G1 w vs h2 (h3 vs hc)).mono ?_
 rintro e w' ⟨ae,objs',G',k1,k2,k3,k4⟩
 exact ⟨ae,objs',G',k1,k2,h1.trans k3,k4⟩
theorem cZ.le {P:Program}{f:Nat}{args args':List AV}{objs:List Obj}{R:gC→List Obj→Prop} (hl:AV.leL args args') (h:cZ P f args' objs R):cZ P f args objs R :=
 fun G w vs hm hc=>h G w vs hm (AV.leL_sound hl hc)
def Tk.shift (n:Nat):Tk→Tk
 | .own o=>.own (n + o)
 | t=>t
mutual
def AV.shift (n:Nat):AV→AV
 | .v x=>.v x
 | .sl rows t=>.sl rows (t.shift n)
 | .agg cs=>.agg (AV.shiftL n cs)
 | .tup cs=>.tup (AV.shiftL n cs)
 | .ptr o off=>.ptr (n + o) off
 | .ep rows i off t=>.ep rows i off (t.shift n)
 | .bsl o off len=>.bsl (n + o) off len
 | .map o=>.map (n + o)
 | .fn f a b=>.fn f (AV.shiftL n a) (AV.shiftL n b)
 | .cnd g x=>.cnd g (x.shift n)
 | .any=>.any
def AV.shiftL (n:Nat):List AV→List AV
 | []=>[]
 | x :: xs=>x.shift n :: AV.shiftL n xs
end
def Obj.shift (n:Nat):Obj→Obj
 | .box cs=>.box (AV.shiftL n cs)
 | .map es=>.map (es.map fun e=>(e.1,e.2.shift n))
 | .mapB bs c es=>.mapB bs c (es.map fun e=>(e.1,e.2.shift n))
 | .iter m since seen=>.iter (n + m) since seen
 | .bld e buf=>.bld e (buf.shift n)
 | x=>x
theorem lP (n:Nat):∀ xs:List AV,(AV.shiftL n xs).length=xs.length
 | []=>rfl
 | _ :: xs=>by simp [AV.shiftL,lP n xs]
theorem sU {n:Nat} (xs:List AV):∀ {i:Nat}{y:AV},(AV.shiftL n xs)[i]?=some y→∃ x,xs[i]?=some x∧y=x.shift n:=by
 induction xs with
 | nil=>intro i y h; simp [AV.shiftL] at h
 | cons x xs ih=>
  intro i y h
  cases i with
  | zero=>simp [AV.shiftL] at h; exact ⟨x,rfl,h.symm⟩
  | succ i=>simp only [AV.shiftL,List.getElem?_cons_succ] at h; exact ih h
theorem nR {bl bl':List GB}{o:Nat}{g:GB} (h:bl'[o]?=some g):(bl ++ bl')[bl.length + o]?=some g:=by
 rw [List.getElem?_append_right (Nat.le_add_right _ _),Nat.add_sub_cancel_left]; exact h
theorem LM {bl:List GB}{G':aL}{t:Tk}{b off:Nat} (h:G'.im t b off):aL.im ⟨bl ++ G'.bl,G'.imm⟩ (t.shift bl.length) b off:=by
 cases t with
 | none=>exact h
 | exact=>exact h
 | own o=>
  rcases h with h | ⟨l,c,s,h1,h2⟩
  ·exact .inl h
  ·exact .inr ⟨l,c,s,nR h1,h2⟩
theorem aR.shift {bl:List GB}{G':aL}{w:World}{x:AV}{v:Value} (h:aR G' w x v):aR ⟨bl ++ G'.bl,G'.imm⟩ w (x.shift bl.length) v:=by
 induction h with
 | v x hx=>exact .v x hx
 | any x=>exact .any x
 | cnd g y x _ h' ih=>exact .cnd g _ x ih h'
 | sl rows t x hd ht=>
  refine .sl rows _ x (hd.mono (fun _ _ _=>rfl) (fun b off h=>LM h) (fun _ _ _=>rfl) (fun _ _ h=>h)) ?_
  cases t with
  | none=>trivial
  | exact=>exact ht
  | own o=>
   rcases ht with ⟨l,h1,h2⟩ | ⟨b,l,c,sz,ex,h1,h2⟩
   ·exact .inl ⟨l,nR h1,h2⟩
   ·exact .inr ⟨b,l,c,sz,ex,nR h1,h2⟩
 | agg cs vs hl h1 _ ih=>
  refine .agg _ vs (by rw [lP]; exact hl) h1 (fun i c v hc hv=>?_)
  obtain ⟨x,hx,rfl⟩:=sU _ hc
  exact ih i x v hx hv
 | tup cs vs hl _ ih=>
  refine .tup _ vs (by rw [lP]; exact hl) (fun i c v hc hv=>?_)
  obtain ⟨x,hx,rfl⟩:=sU _ hc
  exact ih i x v hx hv
 | ptr o off b h=>exact .ptr _ off b (nR h)
 | ep rows i off t b st sz h c ht=>
  refine .ep rows i off _ b st sz (h.mono (fun _ _ _=>rfl) (fun b off h=>LM h) (fun _ _ _=>rfl) (fun _ _ h=>h)) c ?_
  cases t with
  | none=>trivial
  | exact=>exact ht
  | own o=>
   rcases ht with ⟨l,h1,h2⟩ | ⟨b,l,c,sz,ex,h1,h2⟩
   ·exact .inl ⟨l,nR h1,h2⟩
   ·exact .inr ⟨b,l,c,sz,ex,nR h1,h2⟩
 | bsl o off len cap b h h1 h2=>exact .bsl _ off len cap b (nR h) h1 h2
 | bsl0 o off cap a h2=>exact .bsl0 _ off cap a h2
 | map o b h=>exact .map _ b (nR h)
 | fn f first cap vf vc h1 h2 _ _ ih1 ih2=>
  refine .fn f _ _ vf vc (by rw [lP]; exact h1) (by rw [lP]; exact h2) (fun i c v hc hv=>?_) (fun i c v hc hv=>?_)
  ·obtain ⟨x,hx,rfl⟩:=sU _ hc
   exact ih1 i x v hx hv
  ·obtain ⟨x,hx,rfl⟩:=sU _ hc
   exact ih2 i x v hx hv
def gC.shift (n:Nat):gC→gC
 | .ret x=>.ret (x.shift n)
 | .pan x=>.pan (x.shift n)
theorem cZ.frame {P:Program}{f:Nat}{args:List AV}{R:gC→List Obj→Prop} (h:cZ P f args [] R) (ha:AV.idsLtL 0 args=true) (objs:List Obj) :
  cZ P f args objs (fun ae o=>∃ ae0 o0,R ae0 o0∧ae=ae0.shift objs.length∧o=objs ++ o0.map (Obj.shift objs.length)):=by
 intro G w vs hm hc
 have hm0:Mem ⟨[],G.imm⟩ [] w:=⟨rfl,fun o x g h=>by simp at h,fun o o' g g' b h=>by simp at h,fun o g b h=>by simp at h,hm.immLt⟩
 have hc0:cQ ⟨[],G.imm⟩ w args vs:=⟨hc.1,fun i x v hx hv=>by
  have:=(hc.2 i x v hx hv).trunc (n:=0) (dM ha i x hx)
  simpa using this⟩
 refine (h ⟨[],G.imm⟩ w vs hm0 hc0).mono ?_
 rintro e w' ⟨ae0,o0,G',hR,hm',hst,hend⟩
 have hold:∀ b,b < w.heap.size→w'.heap[b]?=w.heap[b]?:=fun b hb=>hst.heap b hb (fun o g hg=>by simp at hg)
 have himm:∀ b off,b < w.heap.size→G'.imm b off→G.imm b off:=by
  intro b off hb hi
  rcases hst.imm2 b off hi with h | h | ⟨o,g,h,_⟩
  ·exact h
  ·omega
  ·simp at h
 have hnew:∀ (o:Nat) (g:GB) (b:Nat),G'.bl[o]?=some g→g.blk=some b→w.heap.size≤b:=by
  intro o g b hg hb
  rcases hst.blk o g b hg hb with h | ⟨o',g',h,_⟩
  ·exact h
  ·simp at h
 have key:∀ (o:Nat) (g:GB),G.bl[o]?=some g→(G.bl ++ G'.bl)[o]?=some g:=by
  intro o g hg
  have hl:o < G.bl.length:=by
   rcases Nat.lt_or_ge o G.bl.length with h | h
   ·exact h
   ·rw [List.getElem?_eq_none h] at hg; cases hg
  rw [List.getElem?_append_left hl]; exact hg
 have part:∀ (o:Nat) (g:GB),(G.bl ++ G'.bl)[o]?=some g→(o < G.bl.length∧G.bl[o]?=some g) ∨ (∃ j,o=G.bl.length + j∧G'.bl[j]?=some g):=by
  intro o g hg
  rcases Nat.lt_or_ge o G.bl.length with hl | hl
  ·rw [List.getElem?_append_left hl] at hg; exact .inl ⟨hl,hg⟩
  ·rw [List.getElem?_append_right hl] at hg; exact .inr ⟨o - G.bl.length,by omega,hg⟩
 have hext:Ext G w ⟨G.bl ++ G'.bl,G'.imm⟩ w' :=
  ⟨fun t b off hi=>fF (hold b (hm.imLt t b off hi)) off,r7 key (fun b off h=>hst.ext.imm b off h),fun o b h=>key o _ h,fun o l h=>.inl (key o _ h),fun o b l c sz ex h=>⟨b,l,c,sz,ex,key o _ h,.inr ⟨rfl,rfl,rfl⟩⟩⟩
 refine ⟨ae0.shift objs.length,objs ++ o0.map (Obj.shift objs.length),⟨G.bl ++ G'.bl,G'.imm⟩,⟨ae0,o0,hR,rfl,rfl⟩,?_,?_,?_⟩
 ·refine ⟨by simp [hm.len,hm'.len],?_,?_,?_,hm'.immLt⟩
  ·intro o x g hx hg
   rcases part o g hg with ⟨hl,hg'⟩ | ⟨j,rfl,hg'⟩
   ·rw [List.getElem?_append_left (by rw [← hm.len]; exact hl)] at hx
    exact (hm.ok o x g hx hg').mono hext (fun b hb=>hold b (hm.lt o g b hg' hb)) (fun b hb off hi=>himm b off (hm.lt o g b hg' hb) hi)
   ·rw [hm.len,List.getElem?_append_right (Nat.le_add_right _ _),Nat.add_sub_cancel_left,List.getElem?_map] at hx
    cases hx0:o0[j]? with
    | none=>simp [hx0] at hx
    | some x0=>
     simp only [hx0,Option.map_some,Option.some.injEq] at hx
     subst hx
     have hok:=hm'.ok j x0 g hx0 hg'
     cases x0 with
     | box cells=>
      rcases hok with ⟨rfl,l,hl⟩ | ⟨b,c,e,h1,h2,h3,h4,h5⟩
      ·exact .inl ⟨rfl,l,hl⟩
      ·refine .inr ⟨b,c,e,h1,h2,by rw [lP]; exact h3,?_,h5⟩
       intro i y v hy hv
       obtain ⟨x,hx,rfl⟩:=sU _ hy
       refine ⟨(h4 i x v hx hv).1,?_⟩
       rw [← hm.len]; exact (h4 i x v hx hv).2.shift
     | tok l sz e ex=>exact hok
     | map es=>
      obtain ⟨b,ents,clock,e1,e2,e3,e4,e5,e6⟩:=hok
      refine ⟨b,ents,clock,e1,e2,by simp [e3],fun i k y e hi he=>?_,e5,e6⟩
      rw [List.getElem?_map] at hi
      cases hes:es[i]? with
      | none=>simp [hes] at hi
      | some p=>
       simp only [hes,Option.map_some,Option.some.injEq,Prod.mk.injEq] at hi
       obtain ⟨rfl,rfl⟩:=hi
       have:=e4 i p.1 p.2 e hes he
       exact ⟨this.1,by rw [← hm.len]; exact this.2.1.shift,this.2.2⟩
     | mapB bs clock es=>
      obtain ⟨b,ents,e1,e2,e3,e4,e5,e7,e6⟩:=hok
      refine ⟨b,ents,e1,e2,by simp [e3],fun i k y e hi he=>?_,e5,e7,e6⟩
      rw [List.getElem?_map] at hi
      cases hes:es[i]? with
      | none=>simp [hes] at hi
      | some p=>
       simp only [hes,Option.map_some,Option.some.injEq,Prod.mk.injEq] at hi
       obtain ⟨rfl,rfl⟩:=hi
       have:=e4 i p.1 p.2 e hes he
       exact ⟨this.1,by rw [← hm.len]; exact this.2.1.shift,this.2.2⟩
     | iter m since seen=>
      obtain ⟨b,mb,e1,e2,e3,e4⟩:=hok
      exact ⟨b,mb,e1,by rw [← hm.len]; exact nR e2,e3,e4⟩
     | siter s pos=>exact hok
     | bld e buf=>
      obtain ⟨b,c0,c1,e1,e2,e3,e4,e5,e6⟩:=hok
      exact ⟨b,c0,c1,e1,e2,e3,e4,by rw [← hm.len]; exact e5.shift,e6⟩
     | lin v sz e rows=>exact hok
     | dead=>exact hok
  ·intro o o' g g' b h1 h2 e1 e2
   rcases part o g h1 with ⟨hl,k1⟩ | ⟨j,rfl,k1⟩ <;> rcases part o' g' h2 with ⟨hl',k2⟩ | ⟨j',rfl,k2⟩
   ·exact hm.inj o o' g g' b k1 k2 e1 e2
   ·have:=hm.lt o g b k1 e1; have:=hnew j' g' b k2 e2; omega
   ·have:=hm.lt o' g' b k2 e2; have:=hnew j g b k1 e1; omega
   ·rw [hm'.inj j j' g g' b k1 k2 e1 e2]
  ·intro o g b h1 e1
   rcases part o g h1 with ⟨hl,k1⟩ | ⟨j,rfl,k1⟩
   ·exact Nat.lt_of_lt_of_le (hm.lt o g b k1 e1) hst.size
   ·exact hm'.lt j g b k1 e1
 ·refine ⟨hext,fun k hk _=>hold k hk,hst.size,hst.os,hst.tape,hst.output,?_,?_⟩
  ·intro b off hi
   rcases hst.imm2 b off hi with h | h | ⟨o,g,h,_⟩
   ·exact .inl h
   ·exact .inr (.inl h)
   ·simp at h
  ·intro o g b h1 e1
   rcases part o g h1 with ⟨hl,k1⟩ | ⟨j,rfl,k1⟩
   ·exact .inr ⟨o,g,k1,e1⟩
   ·exact .inl (hnew j g b k1 e1)
 ·cases ae0 with
  | ret x=>
   cases e with
   | returned v=>have:=aR.shift (bl:=G.bl) hend; rw [hm.len] at this; rw [hm.len] at *; exact this
   | panicked chain=>exact hend.elim
   | outgrown=>exact hend.elim
  | pan x=>
   cases e with
   | returned v=>exact hend.elim
   | panicked chain=>obtain ⟨v,hv,hx⟩:=hend; have:=aR.shift (bl:=G.bl) hx; rw [hm.len] at this; exact ⟨v,hv,this⟩
   | outgrown=>exact hend.elim
def Fun (P:Program) (f:Nat) (args:List AV) (x:AV) (o0:List Obj):Prop:=cZ P f args [] (fun ae o=>ae=.ret x∧o=o0)
section
variable {P:Program}{n0:Nat}{Q:AX→AS→Prop}{E:AV→AS→Prop}
theorem SR {f:Nat}{args args':List AV}{x:AV}{objs o0:List Obj}{K E:AV→List Obj→Prop} (hen:aU P f=true) (h:Fun P f args' x o0) (ha:AV.idsLtL 0 args'=true)
  (hle:AV.leL (AV.stripL args) args') (hk:K (x.shift (AV.pubL objs args).length) (AV.pubL objs args ++ o0.map (Obj.shift (AV.pubL objs args).length))):Q6 P f args objs K E:=by
 refine ⟨hen,cZ.strip (cZ.le hle (cZ.mono (cZ.frame h ha _) ?_))⟩
 rintro ae o ⟨ae0,o0',⟨rfl,rfl⟩,rfl,rfl⟩
 exact hk
theorem PR {I:Nat→AS→Prop}{n i:Nat}{s:AS}:vY n0 I n Q (.exit i) s=Q (.exit i) s:=rfl
theorem QG {I:Nat→AS→Prop}{n:Nat}{s:AS}:vY n0 I n Q .ret s=Q .ret s:=rfl
theorem w64 {n:Int} (h:-9223372036854775808≤n∧n≤9223372036854775807):IntKind.i64.wrap n=n:=IntWalk.i64_in n h
theorem Fun.of_awp {f:Nat}{fn:Func}{c:Code}{args:List AV}{x:AV}{o0:List Obj} (hf:P.funcs[f]?=some fn) (hb:fn.body=some c)
  (h:awp P 0 c ⟨args ++ List.replicate (fn.ntmps - args.length) .any,[]⟩ (fG P 0 fn.results.toList (fun ae o=>ae=.ret x∧o=o0)) (fun _ _=>False)):Fun P f args x o0 :=
 cZ.of_awp hf hb (by
  have e:(fun (x':AV) (s':AS)=>(gC.pan x'=gC.ret x∧s'.objs=o0))=(fun _ _=>False):=by
   funext x' o; simp
  rw [e]; exact h)
end
def bT (rows:List (List D)):List AV:=rows.flatten.map .ofD
theorem bO.trunc {G0 G:aL}{w0 w:World}{n:Nat} (h:bO G0 w0 G w) (hn:G0.bl.length≤n):bO G0 w0 ⟨G.bl.take n,G.imm⟩ w:=by
 have key:∀ (o:Nat) (g:GB),G0.bl[o]?=some g→o < n:=by
  intro o g hg
  have:o < G0.bl.length:=by
   rcases Nat.lt_or_ge o G0.bl.length with h | h
   ·exact h
   ·rw [List.getElem?_eq_none h] at hg; cases hg
  omega
 refine ⟨⟨h.ext.cells,?_,fun o b h'=>fA (key o _ h') (h.ext.obj o b h'),?_,?_⟩,h.heap,h.size,h.os,h.tape,h.output,h.imm2,?_⟩
 ·intro t b off ht
  have h':=h.ext.im t b off ht
  rcases jG ht with hi | ⟨o,len,cap,sz,rfl,h1,_⟩
  ·exact aL.imm_im _ t (h.ext.imm b off hi)
  ·exact C9 (by simp only [Tk.idsLt,decide_eq_true_eq]; exact key o _ h1) h'
 ·intro o l h1
  rcases h.ext.full o l h1 with h' | ⟨b,l',c,sz,ex,h',hlt⟩
  ·exact .inl (fA (key o _ h1) h')
  ·exact .inr ⟨b,l',c,sz,ex,fA (key o _ h1) h',hlt⟩
 ·intro o b l c sz ex h1
  obtain ⟨b',l',c',sz',ex',h',hx⟩:=h.ext.tok o b l c sz ex h1
  exact ⟨b',l',c',sz',ex',fA (key o _ h1) h',hx⟩
 ·intro o g b h1 hb
  exact h.blk o g b (dT h1).2 hb
theorem vX {α:Type}{sz:Nat}:∀ {rows:List (List α)}{i j:Nat}{r:List α}{d:α},(∀ (i:Nat) (r:List α),rows[i]?=some r→r.length=sz)→rows[i]?=some r→r[j]?=some d→rows.flatten[i * sz + j]?=some d
 | [],i,j,r,d,_,h,_=>by simp at h
 | r0 :: rows,i,j,r,d,hl,h,hj=>by
  have h0:=hl 0 r0 rfl
  cases i with
  | zero=>
   simp at h; subst h
   have hjl:j < r0.length:=by
    rcases Nat.lt_or_ge j r0.length with h | h
    ·exact h
    ·rw [List.getElem?_eq_none h] at hj; cases hj
   rw [List.flatten_cons,List.getElem?_append_left (by omega)]
   simpa using hj
  | succ i=>
   rw [List.flatten_cons,List.getElem?_append_right (by rw [Nat.succ_mul]; omega)]
   have:=vX (fun i r h=>hl (i + 1) r (by simpa using h)) (by simpa using h) hj
   rw [show (i + 1) * sz + j - r0.length=i * sz + j from by rw [Nat.succ_mul]; omega]
   exact this
theorem sP {w:World}{b:Nat}{c:Array Value}{e:TypeId}{t:Nat × Nat} (h:w.heap[b]?=some (.cells c e t)) (o:Nat):w.cell? ⟨b,o,none⟩=c[o]?:=by
 simp [World.cell?,h]
theorem LQ {G:aL}{w:World}{d:D}{v:Value} (h:aR G w (.ofD d) v):eX w G.imm d v:=by
 cases d with
 | v x=>cases h with | v _ h=>exact .v _ h
 | sl rows=>cases h with | sl _ _ _ h _=>exact eX.sl_iff.2 h
theorem pN {rows:List (List D)}{sz:Nat} (h:∀ (i:Nat) (r:List D),rows[i]?=some r→r.length=sz):(bT rows).length=rows.length * sz:=by
 rw [bT,List.length_map,z6 h]
theorem cH.unbox {n0:Nat}{tmps:List AV}{objs:List Obj} (i:Nat) {rows:List (List D)}{n sz e:Nat} (hi:tmps[i]?=some (.sl rows (.own objs.length))) (hn:rows.length=n)
  (hn0:n0≤objs.length) (h1:AV.idsLtL objs.length (tmps.set i .any)=true) (h2:cM objs.length objs=true) :
  cH n0 ⟨tmps,objs ++ [.tok n sz e true]⟩ ⟨tmps.set i (.bsl objs.length 0 n),objs ++ [.box (bT rows)]⟩:=by
 intro _ G0 w0 G a w hl0 hf
 have hm:=hf.sat.mem
 have hlen:G.bl.length=objs.length + 1:=by rw [hm.len]; simp
 have hst:=hf.step.trunc (n:=objs.length) (by omega)
 have hm':=hm.trunc h2
 have htl:(G.bl.take objs.length).length=objs.length:=by simp; omega
 have htm:cQ ⟨G.bl.take objs.length,G.imm⟩ w (tmps.set i .any) a.tmps.toList:=by
  have:=(hf.sat.tmps.set i (x:=.any) (v:=a.tmps.toList[i]?.getD undef) (.any _))
  have hself:a.tmps.toList.set i (a.tmps.toList[i]?.getD undef)=a.tmps.toList:=by
   cases hq:a.tmps.toList[i]? with
   | none=>rw [List.set_eq_of_length_le]; exact List.getElem?_eq_none_iff.1 hq
   | some v=>exact fZ (by simpa using hq)
  rw [hself] at this
  exact ⟨this.1,fun j x v hx hv=>(this.2 j x v hx hv).trunc (dM h1 j x hx)⟩
 have hil:i < a.tmps.toList.length:=by
  rw [hf.sat.tmps.1]
  rcases Nat.lt_or_ge i tmps.length with hl | hl
  ·exact hl
  ·rw [List.getElem?_eq_none hl] at hi; cases hi
 have hv:=hf.sat.tmps.2 i _ _ hi (List.getElem?_eq_getElem hil)
 obtain ⟨g,hg,hok⟩:=hm.obj (o:=objs.length) (x:=.tok n sz e true) (by simp)
 cases hv with
 | sl _ _ _ hd ht=>
  have fin:∀ (g':GB),(∀ b,g'.blk=some b→w0.heap.size≤b ∨ ∃ (o:Nat) (g:GB),G0.bl[o]?=some g∧g.blk=some b) →
    (∀ b,g'.blk=some b→b < w.heap.size∧∀ (o:Nat) (g'':GB),(G.bl.take objs.length)[o]?=some g''→g''.blk ≠ some b) →
    iU ⟨G.bl.take objs.length ++ [g'],G.imm⟩ w g' (.box (bT rows)) →
    aR ⟨G.bl.take objs.length ++ [g'],G.imm⟩ w (.bsl objs.length 0 n) a.tmps.toList[i] →
    dH G0 w0 ⟨G.bl.take objs.length ++ [g'],G.imm⟩ ⟨tmps.set i (.bsl objs.length 0 n),objs ++ [.box (bT rows)]⟩ a w:=by
   intro g' hb1 hb2 hob hcv
   have hext:Ext ⟨G.bl.take objs.length,G.imm⟩ w ⟨G.bl.take objs.length ++ [g'],G.imm⟩ w:=rW ⟨G.bl.take objs.length,G.imm⟩ w g'
   refine ⟨⟨hst.ext.trans hext,hst.heap,hst.size,hst.os,hst.tape,hst.output,hst.imm2,?_⟩,Mem.push (G:=⟨G.bl.take objs.length,G.imm⟩) hm' hob hb2,?_,hf.sat.defers⟩
   ·intro o g'' b hg'' hbb
    rcases Nat.lt_or_ge o objs.length with hl | hl
    ·rw [List.getElem?_append_left (by omega)] at hg''
     exact hst.blk o g'' b hg'' hbb
    ·rw [List.getElem?_append_right (by omega)] at hg''
     cases hz:o - (G.bl.take objs.length).length with
     | zero=>rw [hz] at hg''; simp at hg''; subst hg''; exact hb1 b hbb
     | succ m=>rw [hz] at hg''; simp at hg''
   ·have hmono:=htm.mono hext
    have hset:=hmono.set i hcv
    have hself:a.tmps.toList.set i a.tmps.toList[i]=a.tmps.toList:=fZ (List.getElem?_eq_getElem hil)
    rw [hself] at hset
    simpa using hset
  rcases hok with ⟨rfl,hex⟩ | ⟨b,cap,cur,rfl,hh,hc1,hc2,hc3,hc4,_⟩
  ·have hn':n=0:=hex rfl
   subst hn'
   have hr:rows=[]:=List.eq_nil_of_length_eq_zero hn
   subst hr
   refine ⟨⟨G.bl.take objs.length ++ [.full 0],G.imm⟩,fin _ (by intro b hb; cases hb) (by intro b hb; cases hb) (.inl ⟨rfl,0,rfl⟩) ?_⟩
   obtain ⟨a',c',he,hc,hmx,_⟩:=hd
   rw [he]
   exact .bsl0 _ _ _ _ hmx
  ·refine ⟨⟨G.bl.take objs.length ++ [.obj b],G.imm⟩,fin _ ?_ ?_ ?_ ?_⟩
   ·intro b' hb'
    simp [GB.blk] at hb'; subst hb'
    exact hf.step.blk _ _ _ hg rfl
   ·intro b' hb'
    simp [GB.blk] at hb'; subst hb'
    refine ⟨hm.lt _ _ _ hg rfl,fun o g'' hg'' hbb=>?_⟩
    obtain ⟨hol,hg3⟩:=dT hg''
    have:=hm.inj _ _ _ _ _ hg3 hg hbb rfl
    omega
   ·obtain ⟨a',c',he,hc,hmx,hrow⟩:=hd
    have hv2:a.tmps.toList[i]=.slice (some ⟨b,0,none⟩) n cap:=by
     rcases ht with ⟨l,k1,_⟩ | ⟨b',l,c,sz',ex,k1,k2,k3⟩
     ·rw [hg] at k1; cases k1
     ·rw [hg] at k1; cases k1; exact k3 hn
    refine .inr ⟨b,cur,e,rfl,hh,?_,?_,hc4 rfl⟩
    ·rcases hrow with rfl | ⟨b2,st,s2,ha,hr1,hr2⟩
     ·simp [bT]
     ·rw [hv2] at he; cases he; cases ha
      rcases Nat.eq_zero_or_pos (bT rows).length with h0 | h0
      ·omega
      ·have hlt:(bT rows).length - 1 < rows.flatten.length:=by simp only [bT,List.length_map] at h0 ⊢; omega
       obtain ⟨p,q,r,k1,k2,k3⟩:=yV hr1 (List.getElem?_eq_getElem hlt)
       obtain ⟨x,hx,_⟩:=hr2 p q r _ k1 k2
       simp only [Nat.zero_add,← k3] at hx
       have:=sP hh ((bT rows).length - 1)
       rw [this] at hx
       rcases Nat.lt_or_ge ((bT rows).length - 1) cur.size with hz | hz
       ·omega
       ·rw [Array.getElem?_eq_none hz] at hx; cases hx
    ·intro j x v hj hv
     rcases hrow with rfl | ⟨b2,st,s2,ha,hr1,hr2⟩
     ·simp [bT] at hj
     ·rw [hv2] at he; cases he; cases ha
      simp only [bT,List.getElem?_map] at hj
      cases hd:rows.flatten[j]? with
      | none=>simp [hd] at hj
      | some d=>
       simp only [hd,Option.map_some,Option.some.injEq] at hj
       subst hj
       obtain ⟨p,q,r,k1,k2,k3⟩:=yV hr1 hd
       obtain ⟨x',hx,_,hdc⟩:=hr2 p q r _ k1 k2
       simp only [Nat.zero_add,← k3] at hx
       rw [sP hh j,hv] at hx
       cases hx
       exact ⟨hdc.one,nQ (G:=⟨G.bl.take objs.length ++ [.obj b],G.imm⟩) hdc⟩
   ·have hv2:a.tmps.toList[i]=.slice (some ⟨b,0,none⟩) n cap:=by
     rcases ht with ⟨l,k1,_⟩ | ⟨b',l,c,sz',ex,k1,k2,k3⟩
     ·rw [hg] at k1; cases k1
     ·rw [hg] at k1; cases k1; exact k3 hn
    rw [hv2]
    exact .bsl _ _ _ _ b (by rw [List.getElem?_append_right (by omega)]; simp [htl]) hc2 hc3
theorem cH.pubbox {n0:Nat}{tmps:List AV}{objs:List Obj} (i:Nat) {rows:List (List D)}{n sz:Nat} (hi:tmps[i]?=some (.bsl objs.length 0 n)) (hn:rows.length=n)
  (hsz:∀ r ∈ rows,r.length=sz)
  (hn0:n0≤objs.length) (h1:AV.idsLtL objs.length (tmps.set i .any)=true) (h2:cM objs.length objs=true) :
  cH n0 ⟨tmps,objs ++ [.box (bT rows)]⟩ ⟨tmps.set i (.sl rows .none),objs⟩:=by
 intro _ G0 w0 G a w hl0 hf
 have hm:=hf.sat.mem
 have hlen:G.bl.length=objs.length + 1:=by rw [hm.len]; simp
 have hst:=hf.step.trunc (n:=objs.length) (by omega)
 have hm':=hm.trunc h2
 have hszr:∀ (i:Nat) (r:List D),rows[i]?=some r→r.length=sz:=fun i r h=>hsz r (List.mem_of_getElem? h)
 have htm:cQ ⟨G.bl.take objs.length,G.imm⟩ w (tmps.set i .any) a.tmps.toList:=by
  have:=(hf.sat.tmps.set i (x:=.any) (v:=a.tmps.toList[i]?.getD undef) (.any _))
  have hself:a.tmps.toList.set i (a.tmps.toList[i]?.getD undef)=a.tmps.toList:=by
   cases hq:a.tmps.toList[i]? with
   | none=>rw [List.set_eq_of_length_le]; exact List.getElem?_eq_none_iff.1 hq
   | some v=>exact fZ (by simpa using hq)
  rw [hself] at this
  exact ⟨this.1,fun j x v hx hv=>(this.2 j x v hx hv).trunc (dM h1 j x hx)⟩
 have hil:i < a.tmps.toList.length:=by
  rw [hf.sat.tmps.1]
  rcases Nat.lt_or_ge i tmps.length with hl | hl
  ·exact hl
  ·rw [List.getElem?_eq_none hl] at hi; cases hi
 have hself:a.tmps.toList.set i a.tmps.toList[i]=a.tmps.toList:=fZ (List.getElem?_eq_getElem hil)
 have hv:=hf.sat.tmps.2 i _ _ hi (List.getElem?_eq_getElem hil)
 obtain ⟨g,hg,hok⟩:=hm.obj (o:=objs.length) (x:=.box (bT rows)) (by simp)
 generalize a.tmps.toList[i]=v at hv hself
 have empty:rows=[]→∃ G',dH G0 w0 G' ⟨tmps.set i (.sl rows .none),objs⟩ a w:=by
  intro hr
  refine ⟨⟨G.bl.take objs.length,G.imm⟩,hst,hm',?_,hf.sat.defers⟩
  have hc:aR ⟨G.bl.take objs.length,G.imm⟩ w (.sl rows .none) v:=by
   subst hr
   subst hn
   cases hv with
   | bsl _ _ _ cap b h h1 h2=>exact .sl _ _ _ (SlC.nil _ _ h2) trivial
   | bsl0 _ _ cap a h2=>exact .sl _ _ _ (SlC.nil _ _ h2) trivial
  have:=htm.set i hc
  rw [hself] at this
  simpa using this
 rcases Nat.eq_zero_or_pos rows.length with hz | hpos
 ·exact empty (List.eq_nil_of_length_eq_zero hz)
 cases hv with
 | bsl0 _ _ cap a h2=>omega
 | bsl _ _ _ cap b hb hcap hmx=>
  rw [hb] at hg; cases hg
  rcases hok with ⟨hce,l,hl⟩ | ⟨b',c,e,hbe,hh,hs,hc,him⟩
  ·cases hl
  cases hbe
  let imm':Nat→Nat→Prop:=fun b' off=>G.imm b' off ∨ (b'=b∧off < (bT rows).length)
  have hsub:∀ b' off,G.imm b' off→imm' b' off:=fun _ _ h=>.inl h
  have hblk:b < w.heap.size:=hm.lt _ _ _ hb rfl
  have hother:∀ (o:Nat) (g:GB) (b':Nat),(G.bl.take objs.length)[o]?=some g→g.blk=some b'→b' ≠ b:=by
   rintro o g b' hg hbb rfl
   obtain ⟨hol,hg3⟩:=dT hg
   have:=hm.inj _ _ _ _ _ hg3 hb hbb rfl
   omega
  have hext:Ext ⟨G.bl.take objs.length,G.imm⟩ w ⟨G.bl.take objs.length,imm'⟩ w :=
   ⟨fun _ _ _ _=>rfl,r7 (fun _ _ h=>h) hsub,fun _ _ h=>h,fun _ _ h=>.inl h,fun _ b l c sz ex h=>⟨b,l,c,sz,ex,h,.inr ⟨rfl,rfl,rfl⟩⟩⟩
  refine ⟨⟨G.bl.take objs.length,imm'⟩,⟨hst.ext.trans hext,hst.heap,hst.size,hst.os,hst.tape,hst.output,?_,hst.blk⟩,⟨hm'.len,?_,hm'.inj,hm'.lt,?_⟩,?_,hf.sat.defers⟩
  ·rintro b' off (h | ⟨rfl,_⟩)
   ·exact hst.imm2 b' off h
   ·exact .inr (hf.step.blk _ _ _ hb rfl)
  ·intro o x g hx hg
   refine (hm'.ok o x g hx hg).mono hext (fun _ _=>rfl) ?_
   intro b' hbb off h
   rcases h with h | ⟨rfl,_⟩
   ·exact h
   ·exact (hother o g _ hg hbb rfl).elim
  ·refine ⟨?_,hm'.gl hext⟩
   rintro b' off (h | ⟨rfl,_⟩)
   ·exact hm.immLt.1 b' off h
   ·exact hblk
  ·have hfl:=z6 hszr
   have hcv:aR ⟨G.bl.take objs.length,imm'⟩ w (.sl rows .none) (.slice (some ⟨b,0,none⟩) n cap):=by
    refine .sl rows .none _ ⟨_,cap,by rw [hn],by omega,hmx,.inr ⟨b,0,sz,rfl,hszr,?_⟩⟩ trivial
    intro p q r d hr hd
    have hq:q < sz:=by
     rw [← hszr p r hr]
     rcases Nat.lt_or_ge q r.length with h | h
     ·exact h
     ·rw [List.getElem?_eq_none h] at hd; cases hd
    have hp:p < rows.length:=by
     rcases Nat.lt_or_ge p rows.length with h | h
     ·exact h
     ·rw [List.getElem?_eq_none h] at hr; cases hr
    have hpq:p * sz + q < rows.length * sz:=by
     have:p * sz + sz≤rows.length * sz:=by rw [← Nat.succ_mul]; exact Nat.mul_le_mul_right sz hp
     omega
    have hfg:rows.flatten[p * sz + q]?=some d:=vX hszr hr hd
    have hcell:(bT rows)[p * sz + q]?=some (.ofD d):=by rw [bT,List.getElem?_map,hfg]; rfl
    have hlt:p * sz + q < c.size:=by
     have:(bT rows).length=rows.length * sz:=pN hszr
     omega
    obtain ⟨e1,e2⟩:=hc _ _ _ hcell (Array.getElem?_eq_getElem hlt)
    refine ⟨c[p * sz + q],?_,(show imm' b (0 + p * sz + q) from Or.inr ⟨rfl,?_⟩),?_⟩
    ·rw [sP hh]; simp [hlt]
    ·rw [pN hszr]; omega
    ·have hd2:=LQ e2
     exact hd2.mono (fun _ _ _=>rfl) hsub
   have hset:=(htm.mono hext).set i hcv
   rw [hself] at hset
   simpa using hset
end Go.Proofs.YthgenmkengbmmaaGreatDoor.AM
namespace Go.Proofs.YthgenmkengbmmaaGreatDoor.AM

open Go
end Go.Proofs.YthgenmkengbmmaaGreatDoor.AM
namespace Go.Proofs.YthgenmkengbmmaaGreatDoor.AM
open Go
theorem cH.tup {n0:Nat}{xs ys:List AV}{objs:List Obj} (h:AV.leL xs ys):cH n0 ⟨[.tup xs],objs⟩ ⟨[.tup ys],objs⟩:=by
 intro _ G0 w0 G a w hn hf
 refine ⟨G,hf.step,hf.sat.mem,?_,hf.sat.defers⟩
 refine ⟨hf.sat.tmps.1,fun i x v hx hv=>?_⟩
 match i with
 | 0=>
  simp only [List.getElem?_cons_zero,Option.some.injEq] at hx
  subst hx
  have:=hf.sat.tmps.2 0 _ v rfl hv
  cases this with
  | tup _ vs hl hc=>
   obtain ⟨h1,h2⟩:=AV.leL_sound h ⟨hl,hc⟩
   exact .tup _ vs h1 h2
 | n + 1=>simp at hx
section
variable {P:Program}{ops rest:List Oper}{o:Oper}{s:AS}{K:AS→Prop}{E:AV→AS→Prop}
end
end Go.Proofs.YthgenmkengbmmaaGreatDoor.AM
namespace Go.Proofs.YthgenmkengbmmaaGreatDoor.AM
open Go Go.RowKit Go.WideShapes Go.ChangeShapes
def lG (P:Program):Nat→List Field→Option Nat
 | n,[]=>some n
 | n,f :: fs=>if f.offset=n then lG P (n + P.cellsOf f.type) fs else none
def oE (P:Program):Nat→TypeId→Bool
 | 0,_=>false
 | n + 1,t=>
  match P.underlying t with
  | some .bool=>true
  | some (.int _)=>true
  | some .string=>true
  | some (.slice e)=>decide (0 < P.cellsOf e) && oE P n e
  | some (.struct fs)=>decide (lG P 0 fs.toList=some (P.cellsOf t)) && fs.toList.all fun f=>oE P n f.type
  | some (.array m e)=>decide (P.cellsOf t=m * P.cellsOf e) && oE P n e
  | _=>false
def PF (sh:TypeId→List D→Prop):List Field→List D→Prop
 | [],ds=>ds=[]
 | f :: fs,ds=>∃ a b,ds=a ++ b∧sh f.type a∧PF sh fs b
def shN (sh:List D→Prop):Nat→List D→Prop
 | 0,ds=>ds=[]
 | n + 1,ds=>∃ a b,ds=a ++ b∧sh a∧shN sh n b
section
variable {P:Program}{n:Nat}{t:TypeId}{ds:List D}
end
def lT (w:World):Nat→Nat→Prop:=fun b _=>b < w.heap.size
def t7 (w:World) (ds:List D) (cs:List Value):Prop:=ds.length=cs.length∧∀ (i:Nat) (c:Value) (d:D),cs[i]?=some c→ds[i]?=some d→eX w (lT w) d c
theorem t7.append {w:World}{a b:List D}{cs ds:List Value} (h:t7 w a cs) (k:t7 w b ds):t7 w (a ++ b) (cs ++ ds):=by
 refine ⟨by simp [h.1,k.1],fun i c d hc hd=>?_⟩
 rcases Nat.lt_or_ge i cs.length with hi | hi
 ·rw [List.getElem?_append_left hi] at hc
  rw [List.getElem?_append_left (by rw [h.1]; exact hi)] at hd
  exact h.2 i c d hc hd
 ·rw [List.getElem?_append_right hi] at hc
  rw [List.getElem?_append_right (by rw [h.1]; exact hi),h.1] at hd
  exact k.2 _ c d hc hd
theorem t7.one {w:World}{d:D}{c:Value} (h:eX w (lT w) d c):t7 w [d] [c]:=by
 refine ⟨rfl,fun i c' d' hc hd=>?_⟩
 cases i with
 | zero=>cases hc; cases hd; exact h
 | succ i=>simp at hc
theorem AO {w:World}{base:Nat}{a:Addr}{n:Nat}{cs:List Value} (h:w.cells? base a n=some cs):cs.length=n∧∀ i,i < n→w.cell? (a.add i)=cs[i]?:=by
 unfold World.cells? at h
 split at h
 ·have key:∀ (l:List Nat) (cs:List Value),(l.mapM fun i=>w.cell? (a.add i))=some cs→cs.length=l.length∧∀ (i j:Nat),l[i]?=some j→w.cell? (a.add j)=cs[i]?:=by
   intro l
   induction l with
   | nil=>intro cs h; simp at h; subst h; simp
   | cons x l ih=>
    intro cs h
    simp only [List.mapM_cons,Option.bind_eq_bind,Option.bind_eq_some_iff,Option.pure_def,Option.some.injEq] at h
    obtain ⟨c,hc,ds,hds,rfl⟩:=h
    obtain ⟨h1,h2⟩:=ih ds hds
    refine ⟨by simp [h1],fun i j hj=>?_⟩
    cases i with
    | zero=>simp at hj; subst hj; simpa using hc
    | succ i=>simp at hj; simpa using h2 i j hj
  obtain ⟨h1,h2⟩:=key _ _ h
  refine ⟨by simpa using h1,fun i hi=>h2 i i (by simp [hi])⟩
 ·cases h
theorem OM {w:World}{a:Addr}{v:Value} (h:w.cell? a=some v):a.block < w.heap.size:=by
 rcases Nat.lt_or_ge a.block w.heap.size with hl | hl
 ·exact hl
 ·have:w.heap[a.block]?=none:=Array.getElem?_eq_none hl
  simp [World.cell?,this] at h
section
variable {H:Type}{enc:TypeId × Value→H}{P:Program}{w:World}{base:Nat}{spare:Nat→Bool}{held:Bool}
def AJ (P:Program) (t:TypeId) (ds:List D):AV :=
 match P.underlying t with
 | some (.struct _)=>.agg (ds.map .ofD)
 | some (.array _ _)=>.agg (ds.map .ofD)
 | _=>.ofD (ds.getD 0 default)
def mL (w:World):aL:=⟨[],lT w⟩
theorem Vd (w:World) (hgl:uU (lT w) w):Mem (mL w) [] w :=
 ⟨rfl,fun o x g h=>by simp at h,fun o o' g g' b h=>by simp [mL] at h,fun o g b h=>by simp [mL] at h,fun b off h=>h,hgl⟩
theorem Rn {d:D}{v:Value}{w:World} (h:eX w (lT w) d v):aR (mL w) w (.ofD d) v:=nQ h
end
theorem bO.below {G G':aL}{w w':World} (h:bO G w G' w') (hb:G.bl=[]):Below w.heap.size w w' :=
 ⟨h.os,h.tape,h.output.1,h.size,fun k hk=>h.heap k hk fun o g hg=>by simp [hb] at hg⟩
theorem Dz {H:Type}{enc:TypeId × Value→H}{P:Program} (hl:laidOutB P=true) {W W':World} (hb:Below W.heap.size W W'):∀ {ts:List TypeId}{vs:List Value}{ds:List (DataW H)}{ps:List MemPlace},
  (∀ t ∈ ts,P.readableRec t=true∧t < P.types.size)→DataW.TrodAll enc P W 0 (fun _=>true) true ts vs ds ps→(∀ x ∈ ps,x.block < W.heap.size) →
  DataW.TrodAll enc P W' 0 (fun b=>decide (b < W.heap.size)) true ts vs ds ps
 | [],vs,ds,ps,_,h,_=>by cases vs <;> cases ds <;> simp [DataW.TrodAll] at h ⊢; exact h
 | t :: ts,vs,ds,ps,hr,h,hlt=>by
  obtain ⟨v,vs',d,ds',p,q,rfl,rfl,rfl,h1,h2⟩:=ChangeShapes.trodAll_cons h
  obtain ⟨r1,r2⟩:=hr t List.mem_cons_self
  exact ⟨p,q,Below.trod hl r1 r2 h1 hb (fun x hx=>hlt x (List.mem_append_left _ hx)),Dz hl hb (fun t' ht'=>hr t' (List.mem_cons_of_mem _ ht')) h2 (fun x hx=>hlt x (List.mem_append_right _ hx)),rfl⟩
end Go.Proofs.YthgenmkengbmmaaGreatDoor.AM
namespace Go.Proofs.YthgenmkengbmmaaGreatDoor.AM
open Go
def vQ:List Oper→Nat→Option Nat
 | [],_=>none
 | o :: _,0=>o.dst
 | _ :: l,n + 1=>vQ l n
def Pv (d:Option Nat) (s:AS) (want:Bool):Option Bool :=
 match d with
 | some d=>(match (s.tmps.getD d .any).boolUn with | some (g,b)=>some (g && (b == want)) | none=>none)
 | none=>none
theorem MF:∀ (ops:List Oper) (j:Nat),vQ ops j=(ops[j]?).bind (·.dst)
 | [],_=>rfl
 | _ :: _,0=>rfl
 | _ :: l,n + 1=>by simp [vQ,MF l n]
theorem Lp (ops:List Oper) (s:AS) (j:Nat) (want:Bool):gJ ops s j want=Pv (vQ ops j) s want:=by
 rw [MF]
 unfold gJ Pv
 cases ops[j]? with
 | none=>rfl
 | some o=>simp only [Option.bind_some]; cases o.dst <;> rfl
attribute [go_sem] Lp vQ
attribute [go_sem] HA y8 q8 w64 dB f5 isQ dK AV.boolUn dY CR AV.split Aa A0 y6 AV.un beq_true beq_false Bool.cond_false_right Bool.cond_true_left Bool.cond_false_left Bool.cond_true_right cond_true cond_false Bool.and_self Bool.or_self Bool.and_eq_true and_imp Option.some.injEq aop AV.ofValue List.set dR tW kK u7 BI o6 p8 dF iM yK lO kU qA q0 Ar PN zB Ck i6 yT k9 oJ pW jZ setFrom sQ List.mem_singleton forall_eq List.not_mem_nil AV.toDs AV.toD TI.isAgg Ax Bd Pl Pj KY AV.ofD Tk.sub Tk.isOwn List.getD_cons_succ List.getD_cons_zero List.map List.getElem?_cons_succ List.getElem?_cons_zero List.getElem?_toArray List.take List.drop List.length_cons List.length_nil List.nil_append List.cons_append decide_eq_true_eq decide_eq_false_iff_not ne_eq Bool.not_eq_true Bool.not_eq_false true_and and_true Bool.true_eq_false Bool.false_eq_true not_true_eq_false not_false_eq_true false_implies true_implies forall_const implies_true decide_true decide_false if_true if_false Bool.not_true Bool.not_false Bool.not_not Option.map_some Option.map_none Option.bind_some Ai Option.isSome_some Bool.and_true Bool.true_and Int.toNat_natCast Nat.zero_add Nat.add_zero List.isEmpty_nil List.isEmpty_cons
attribute [go_sem] kQ qS PR QG AV.pubL AV.pub cW AV.shift Tk.shift AV.shiftL Obj.shift List.append_nil Te Wc reduceCtorEq
section
theorem lE:(AV.v (.slice none 0 0)).strip.le (.sl [] .none):=AV.le_nil
end
section
variable {P:Program}{n0 i:Nat}{K:AS→Prop}{Q:AX→AS→Prop}{I:Nat→AS→Prop}{n:Nat}{s:AS}
theorem YB (h:Q .normal s):qS i Q (.exit i) s:=by show (if i=i then _ else _); rw [if_pos rfl]; exact h
theorem YH {j:Nat} (hj:(j == i)=false) (h:Q (.exit j) s):qS i Q (.exit j) s:=by show (if j=i then _ else _); rw [if_neg (by simpa using hj)]; exact h
end
end Go.Proofs.YthgenmkengbmmaaGreatDoor.AM
namespace Go.Proofs.YthgenmkengbmmaaGreatDoor.AM

open Go
end Go.Proofs.YthgenmkengbmmaaGreatDoor.AM
namespace Go.Proofs.YthgenmkengbmmaaGreatDoor.AM
open Go
def oc (d:Nat) (x:AV) (r:List (Nat × AV)):List (Nat × AV):=(d,x) :: r
def F2:List (Nat × AV):=[]
def og:List (Nat × AV)→Nat→AV
 | [],_=>.any
 | (d,x) :: r,t=>if d=t then x else og r t
def ov (n:Nat):List (Nat × AV)→List AV
 | []=>List.replicate n .any
 | (d,x) :: r=>(ov n r).set d x
theorem fI (n:Nat):∀ o,(ov n o).length=n
 | []=>by simp [ov]
 | (d,x) :: r=>by simp [ov,fI n r]
theorem m5 (n:Nat):∀ (o:List (Nat × AV)) (t:Nat),t < n→(ov n o)[t]?=some (og o t)
 | [],t,h=>by simp [ov,og,h]
 | (d,x) :: r,t,h=>by
  simp only [ov,og,List.getElem?_set]
  by_cases e:d=t
  ·subst e; simp [fI,h]
  ·simp [e,m5 n r t h]
theorem u4 (n:Nat) (o:List (Nat × AV)) (t:Nat):(ov n o).getD t .any=if t < n then og o t else .any:=by
 rw [List.getD_eq_getElem?_getD]
 split
 ·rename_i h; rw [m5 n o t h]; rfl
 ·rename_i h; rw [List.getElem?_eq_none (by rw [fI]; omega)]; rfl
theorem HO (d:Nat) (x:AV) (r:List (Nat × AV)) (t:Nat):og (oc d x r) t=if d=t then x else og r t:=rfl
theorem Ol (t:Nat):og F2 t=.any:=rfl
@[congr] theorem YQ {d:Nat}{x x':AV}{r:List (Nat × AV)} (h:x=x'):oc d x r=oc d x' r:=by rw [h]
theorem Oh (n:Nat) (o:List (Nat × AV)) (objs:List Obj) (t:Nat):AS.eval ⟨ov n o,objs⟩ (.tmp t)=(if t < n then og o t else .any).un:=by
 simp only [AS.eval,u4]
theorem RL (n:Nat) (o:List (Nat × AV)) (objs:List Obj) (t:Nat):AS.raw ⟨ov n o,objs⟩ (.tmp t)=if t < n then og o t else .any:=by
 simp only [AS.raw,u4]
theorem P7 (s:AS) (v:Value):AS.eval s (.const v)=AV.ofValue v:=rfl
theorem Rc (s:AS) (f:Nat):AS.eval s (.func f)=.fn f [] []:=rfl
theorem Rp (s:AS) (v:Value):AS.raw s (.const v)=AV.ofValue v:=rfl
theorem Sk (s:AS) (f:Nat):AS.raw s (.func f)=.fn f [] []:=rfl
theorem Br (n:Nat) (o:List (Nat × AV)) (objs:List Obj) (d:Nat) (x:AV):AS.put ⟨ov n o,objs⟩ (some d) x=⟨ov n (oc d x o),objs⟩:=rfl
theorem S4 (s:AS) (x:AV):AS.put s none x=s:=rfl
theorem Mw (n:Nat) (o:List (Nat × AV)) (objs:List Obj) (d:Nat) (want:Bool):Pv (some d) ⟨ov n o,objs⟩ want=(match (if d < n then og o d else .any).boolUn with | some (g,b)=>some (g && (b == want)) | none=>none):=by
 rw [← u4]; rfl
def bF:Nat→List AV→List (Nat × AV)
 | _,[]=>F2
 | i,a :: as=>oc i a (bF (i + 1) as)
theorem OD:∀ (as:List AV) (i t:Nat),og (bF i as) (i + t)=as.getD t .any
 | [],i,t=>by simp [bF,Ol]
 | a :: as,i,0=>by simp [bF,HO]
 | a :: as,i,t + 1=>by
  have:=OD as (i + 1) t
  rw [show i + 1 + t=i + (t + 1) from by omega] at this
  simp only [bF,HO]
  rw [if_neg (by omega),this]; simp
theorem BA (args:List AV) (n:Nat) (h:args.length≤n):args ++ List.replicate (n - args.length) .any=ov n (bF 0 args):=by
 apply List.ext_getElem?
 intro t
 rcases Nat.lt_or_ge t n with ht | ht
 ·rw [m5 n _ t ht]
  have:=OD args 0 t
  rw [Nat.zero_add] at this
  rw [this]
  rcases Nat.lt_or_ge t args.length with h1 | h1
  ·rw [List.getElem?_append_left h1,List.getD_eq_getElem?_getD,List.getElem?_eq_getElem h1]; rfl
  ·rw [List.getElem?_append_right h1,List.getElem?_replicate,if_pos (by omega),List.getD_eq_getElem?_getD,List.getElem?_eq_none h1]; rfl
 ·rw [List.getElem?_eq_none (by simp; omega),List.getElem?_eq_none (by rw [fI]; omega)]
theorem Fun.of_awpO {P:Program}{f:Nat}{fn:Func}{c:Code}{args:List AV}{x:AV}{o0:List Obj} (hf:P.funcs[f]?=some fn) (hb:fn.body=some c) (hl:args.length≤fn.ntmps)
  (h:awp P 0 c ⟨ov fn.ntmps (bF 0 args),[]⟩ (fG P 0 fn.results.toList (fun ae o=>ae=.ret x∧o=o0)) (fun _ _=>False)):Fun P f args x o0 :=
 Fun.of_awp hf hb (by rw [BA args fn.ntmps hl]; exact h)
def leO (o:List (Nat × AV)):List (Nat × AV)→Prop
 | []=>True
 | (d,x) :: r=>(og o d).le x∧leO o r
theorem OE {o:List (Nat × AV)}:∀ {r:List (Nat × AV)},leO o r→∀ t,(og o t).le (og r t)
 | [],_,t=>AV.le_any _
 | (d,x) :: r,h,t=>by
  simp only [og]
  split
  ·rename_i e; subst e; exact h.1
  ·exact OE h.2 t
theorem CT:∀ {xs ys:List AV},xs.length=ys.length→(∀ (i:Nat) (x y:AV),xs[i]?=some x→ys[i]?=some y→x.le y)→AV.leL xs ys
 | [],[],_,_=>trivial
 | x :: xs,y :: ys,hl,h=>⟨h 0 x y rfl rfl,CT (by simpa using hl) fun i x y hx hy=>h (i + 1) x y (by simpa using hx) (by simpa using hy)⟩
 | [],_ :: _,hl,_=>by simp at hl
 | _ :: _,[],hl,_=>by simp at hl
theorem T7 {n:Nat}{o r:List (Nat × AV)} (h:leO o r):AV.leL (ov n o) (ov n r):=by
 refine CT (by rw [fI,fI]) fun i x y hx hy=>?_
 have hi:i < n:=by have:=(List.getElem?_eq_some_iff.1 hx).1; rwa [fI] at this
 rw [m5 n _ i hi] at hx hy
 cases hx; cases hy
 exact OE h i
def Cx (k:Nat):List (Nat × AV)→Bool
 | []=>true
 | (_,x) :: r=>x.idsLt k && Cx k r
theorem Am {k:Nat}:∀ {xs:List AV},(∀ (i:Nat) (x:AV),xs[i]?=some x→x.idsLt k=true)→AV.idsLtL k xs=true
 | [],_=>rfl
 | x :: xs,h=>by simp only [AV.idsLtL,Bool.and_eq_true]; exact ⟨h 0 x rfl,Am fun i x hx=>h (i + 1) x (by simpa using hx)⟩
theorem F9 {k:Nat}:∀ {o:List (Nat × AV)},Cx k o=true→∀ t,(og o t).idsLt k=true
 | [],_,t=>rfl
 | (d,x) :: r,h,t=>by
  simp only [Cx,Bool.and_eq_true] at h
  simp only [og]
  split
  ·exact h.1
  ·exact F9 h.2 t
theorem RG {n k:Nat}{o:List (Nat × AV)} (h:Cx k o=true):AV.idsLtL k (ov n o)=true:=by
 refine Am fun i x hx=>?_
 have hi:i < n:=by have:=(List.getElem?_eq_some_iff.1 hx).1; rwa [fI] at this
 rw [m5 n _ i hi] at hx
 cases hx
 exact F9 h i
def F4 (kp:Nat→Bool):List (Nat × AV)→List (Nat × AV)
 | []=>F2
 | (d,x) :: r=>bif kp d then F4 kp r else oc d x (F4 kp r)
theorem OL (kp:Nat→Bool):∀ (o:List (Nat × AV)) (t:Nat),og (F4 kp o) t=if kp t=true then .any else og o t
 | [],t=>by simp [F4,F2,og]
 | (d,x) :: r,t=>by
  have ih:=OL kp r t
  simp only [F4]
  cases hk:kp d
  ·simp only [cond_false,HO,og,ih]
   by_cases hd:d=t
   ·subst hd; simp [hk]
   ·simp [hd]
  ·simp only [cond_true,og,ih]
   by_cases hd:d=t
   ·subst hd; simp [hk]
   ·simp [hd]
theorem SL {n k i:Nat}{o:List (Nat × AV)} (h:Cx k (F4 (fun d=>decide (d=i)) o)=true):AV.idsLtL k (AM.ov n (oc i .any o))=true:=by
 refine Am fun j x hx=>?_
 have hj:j < n:=by have:=(List.getElem?_eq_some_iff.1 hx).1; rwa [fI] at this
 rw [m5 n _ j hj] at hx
 cases hx
 rw [HO]
 split
 ·rfl
 ·rename_i hne
  have:=F9 h j
  rw [OL,if_neg (by simpa using fun e=>hne e.symm)] at this
  exact this
theorem cH.tokO {n0 n:Nat}{o:List (Nat × AV)}{objs:List Obj} (i sz e:Nat) (ex:Bool) (hi:i < n) (h:og o i=.v (.slice none 0 0)) :
  cH n0 ⟨AM.ov n o,objs⟩ ⟨AM.ov n (oc i (.sl [] (.own objs.length)) o),objs ++ [.tok 0 sz e ex]⟩ :=
 cH.tok (s:=⟨AM.ov n o,objs⟩) i sz e ex (by rw [m5 n o i hi,h])
def ol:List (Nat × AV)→List (Nat × AV)→List (Nat × AV)
 | [],r=>r
 | (d,x) :: l,r=>oc d x (ol l r)
@[congr] theorem YP {P:Program}{n0:Nat}{c:Code}{s s':AS}{Q:AX→AS→Prop}{E:AV→AS→Prop} (h:s=s'):awp P n0 c s Q E=awp P n0 c s' Q E:=by rw [h]
theorem SX (n:Nat) (L:List Nat) (o:List (Nat × AV)):yD (ov n o) 0 L=ov n (o.filter fun e=>L.contains e.1):=by
 apply List.ext_getElem?
 intro t
 rw [r4]
 rcases Nat.lt_or_ge t n with h | h
 ·rw [m5 n _ t h,m5 n _ t h]
  simp only [Option.map_some,Nat.zero_add,Option.some.injEq]
  induction o with
  | nil=>simp [og]
  | cons e r ih=>
   obtain ⟨d,x⟩:=e
   simp only [og,List.filter_cons]
   by_cases hd:d=t
   ·subst hd
    cases hc:L.contains d
    ·simp only [if_true,cond_false,Bool.false_eq_true,if_false]
     have ih':=ih
     rw [hc] at ih'
     simpa using ih'
    ·simp [og]
   ·rw [if_neg hd]
    cases hc:L.contains d
    ·simpa using ih
    ·simp only [if_true,og,if_neg hd]; exact ih
 ·rw [List.getElem?_eq_none (by rw [fI]; omega),List.getElem?_eq_none (by rw [fI]; omega)]; rfl
def mP (L:List Nat):List (Nat × AV)→List (Nat × AV)
 | []=>F2
 | (d,x) :: r=>bif L.contains d then oc d x (mP L r) else mP L r
theorem Le (L:List Nat):∀ o:List (Nat × AV),mP L o=o.filter fun e=>L.contains e.1
 | []=>rfl
 | (d,x) :: r=>by
  simp only [mP,List.filter_cons,Le L r]
  cases L.contains d <;> rfl
theorem lK (n:Nat) (o:List (Nat × AV)) (objs:List Obj) (L:List Nat):AS.keep ⟨ov n o,objs⟩ L=⟨ov n (mP L o),objs⟩:=by
 simp only [AS.keep,SX,Le]
attribute [go_sem] HO Ol u4 Oh RL P7 Rc Rp Sk Br S4 Mw ol
section
variable {P:Program}{ops:List Oper}{o:Oper}{rest:List Oper}{s:AS}{K:AS→Prop}
end
end Go.Proofs.YthgenmkengbmmaaGreatDoor.AM
