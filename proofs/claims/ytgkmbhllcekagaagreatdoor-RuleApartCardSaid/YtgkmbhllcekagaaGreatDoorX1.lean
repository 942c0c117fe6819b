/- A part of the proof: X1, X2, X3, X4, X5, X6, X7, X8, X9, X10, X11, X12, X13, X14, X15, X16, X17, X18, X19, X20, X21, X22, X23, X24, X25, X26, X27. -/
import Derived.Test.YtgkmbhllcekagaaGreatDoorA3
import Derived.Test.YtgkmbhllcekagaaGreatDoorA4
import Derived.Lib.Bytealg
import Derived.Lib.Overlaps
import Derived.Lib.AppendZerosOnto
set_option linter.all false
/- A function's model: a plain function of an answer that may fail; where it answers, the function answers so. -/
namespace Go.Proofs.YtgkmbhllcekagaaGreatDoor.AM
open Go
/-! ### What models are made of -/
def aA {α β:Type} (_enc:α→AV) (e:α) (m:α→Option β):Option β:=m e
def dT {α β:Type} (_enc:α→AV) (_ob:α→List Obj) (e:α) (m:α→Option β):Option β:=m e
def gdM {β:Type} (p:Prop) [Decidable p] (m:Option β):Option β:=if p then m else none
def aG {β:Type} (b:Bool) (x y:Option β):Option β:=if b=true then x else y
def aI {α β:Type} (_enc:α→AV) (_ob:α→List Obj) (e:Option α) (m:α→Option β):Option β:=e.bind m
def bG {α β:Type} (l:List α) (i:Int) (m:α→Option β):Option β:=if 0≤i then (l[i.toNat]?).bind m else none
def aY {σ β:Type} (m:Option β):Option (σ ⊕ β):=m.map .inr
def aU {σ β:Type} (x:σ):Option (σ ⊕ β):=some (.inl x)
def aH {β:Type} (x:β):Option β:=some x
def Ce {β:Type} (_d _sz _e:Nat) (m:Option β):Option β:=m
def pS {σ β:Type} (_ph:σ→List (Nat × AV)) (_ob:σ→List Obj) (rest:σ→Option β) (m:Option (σ ⊕ β)):Option β:=m.bind (Sum.elim rest some)
def l7 {σ β:Type} (step:σ→Option (σ ⊕ β)):Nat→σ→Option β
  | 0,_=>none
  | n + 1,s=>(step s).bind (Sum.elim (l7 step n) some)
open Classical in
noncomputable def iter {σ β:Type} (step:σ→Option (σ ⊕ β)) (s:σ):Option β :=
  if h:∃ n,(l7 step n s).isSome=true then l7 step (Classical.choose h) s else none
noncomputable def bK {σ β:Type} (_ph:σ→List (Nat × AV)) (_ob:σ→List Obj) (step:σ→Option (σ ⊕ β)) (s:σ):Option β:=iter step s
theorem A1 {σ β:Type}{step:σ→Option (σ ⊕ β)}:∀ {n:Nat}{s:σ}{r:β},l7 step n s=some r→∀ k,n≤k→l7 step k s=some r
  | 0,_,_,h,_,_=>by cases h
  | n + 1,s,r,h,k,hk=>by
    match k,hk with
    | k + 1,hk=>
      simp only [l7] at h ⊢
      cases hs:step s with
      | none=>rw [hs] at h; cases h
      | some y=>
        rw [hs] at h
        cases y with
        | inl s'=>exact A1 (n:=n) h k (by omega)
        | inr b=>exact h
theorem wV {σ β:Type}{step:σ→Option (σ ⊕ β)}{s:σ}{r:β}:iter step s=some r ↔ ∃ n,l7 step n s=some r:=by
  unfold iter
  constructor
  · intro h
    split at h
    · exact ⟨_,h⟩
    · cases h
  · rintro ⟨n,hn⟩
    have he:∃ n,(l7 step n s).isSome=true:=⟨n,by rw [hn]; rfl⟩
    rw [dif_pos he]
    have hc:=Classical.choose_spec he
    generalize Classical.choose he=m at *
    cases hm:l7 step m s with
    | none=>rw [hm] at hc; cases hc
    | some q=>
      rcases Nat.le_total n m with h | h
      · have:=A1 hn m h
        rw [this] at hm; exact hm ▸ rfl
      · have:=A1 hm n h
        rw [this] at hn; exact hn ▸ rfl
theorem yZ {σ β:Type} (step:σ→Option (σ ⊕ β)) (s:σ):iter step s=(step s).bind (Sum.elim (iter step) some):=by
  apply Option.ext
  intro r
  rw [wV]
  constructor
  · rintro ⟨n,hn⟩
    cases n with
    | zero=>cases hn
    | succ n=>
      simp only [l7] at hn
      cases hs:step s with
      | none=>rw [hs] at hn; cases hn
      | some y=>
        rw [hs] at hn
        cases y with
        | inl s'=>exact wV.2 ⟨n,hn⟩
        | inr b=>exact hn
  · intro h
    cases hs:step s with
    | none=>rw [hs] at h; cases h
    | some y=>
      rw [hs] at h
      cases y with
      | inl s'=>
        obtain ⟨n,hn⟩:=wV.1 h
        exact ⟨n + 1,by simp only [l7,hs]; exact hn⟩
      | inr b=>exact ⟨1,by simp only [l7,hs]; exact h⟩
theorem O6 {σ β:Type}{step:σ→Option (σ ⊕ β)} (I:σ→Prop) (μ:σ→Nat) (F:σ→β)
    (h:∀ s,I s→step s=some (.inr (F s)) ∨ ∃ s',step s=some (.inl s')∧I s'∧μ s' < μ s∧F s'=F s):∀ s,I s→iter step s=some (F s):=by
  have key:∀ n s,μ s < n→I s→iter step s=some (F s):=by
    intro n
    induction n with
    | zero=>intro s hn; omega
    | succ n ih=>
      intro s hn hi
      rw [yZ]
      rcases h s hi with h | ⟨s',h,hi',hm,hF⟩
      · rw [h]; rfl
      · rw [h]
        show iter step s'=_
        rw [ih s' (by omega) hi',hF]
  exact fun s hi=>key _ s (Nat.lt_succ_self _) hi
/-! ### The judgement -/
def H {β:Type} (m:Option β) (Φ:β→Prop) (G:Prop):Prop:=∀ y,m=some y→Φ y→G
section
variable {β:Type}{m m1 m2:Option β}{Φ:β→Prop}{G:Prop}
theorem Ab {v r:β} (h:v=r→G):H (aH v) (fun y=>y=r) G:=fun y hy hr=>h (by cases hy; exact hr)
theorem Nn {b:Bool} (h1:b=true→H m1 Φ G) (h2:b=false→H m2 Φ G):H (aG b m1 m2) Φ G:=by
  intro y hy hp
  unfold aG at hy
  cases b with
  | true=>exact h1 rfl y (by simpa using hy) hp
  | false=>exact h2 rfl y (by simpa using hy) hp
theorem TD {p:Prop} [Decidable p] (h:p→H m Φ G):H (gdM p m) Φ G:=by
  intro y hy hp
  unfold gdM at hy
  split at hy
  · rename_i hpp; exact h hpp y hy hp
  · cases hy
theorem R8 {α:Type}{l:List α}{i:Int}{m:α→Option β} (h:∀ p,0≤i→l[i.toNat]?=some p→H (m p) Φ G):H (bG l i m) Φ G:=by
  intro y hy hp
  unfold bG at hy
  split at hy
  · rename_i h0
    cases hl:l[i.toNat]? with
    | none=>rw [hl] at hy; cases hy
    | some p=>rw [hl] at hy; exact h p h0 hl y hy hp
  · cases hy
theorem P2 {σ:Type}{Ψ:σ→Prop} (h:H m Φ G):H (aY m:Option (σ ⊕ β)) (Sum.elim Ψ Φ) G:=by
  intro y hy hp
  unfold aY at hy
  cases hm:m with
  | none=>rw [hm] at hy; cases hy
  | some z=>rw [hm] at hy; cases hy; exact h z hm hp
end
/-! ### Ends of parts of code -/
section
variable {P:Program}{n0 n:Nat}{Q:AX→AS→Prop}{E:AV→List Obj→Prop}{β:Type}{m:Option β}{Φ:β→Prop}{s:AS}
theorem TZ {a b:Code} (h:H m Φ (awp P n0 a s (rQ n0 (fun s'=>awp P n0 b s' Q E) Q) E)):H m Φ (awp P n0 (.seq a b) s Q E):=h
theorem R5 {next:AS→Prop} (h:H m Φ (next s)):H m Φ (rQ n0 next Q .normal s):=fun y h1 h2=>pH.of (b6.refl _ _) (h y h1 h2)
theorem Rw {next:AS→Prop}{i:Nat} (h:H m Φ (Q (.exit i) s)):H m Φ (rQ n0 next Q (.exit i) s):=h
theorem Rn {next:AS→Prop} (h:H m Φ (Q .ret s)):H m Φ (rQ n0 next Q .ret s):=h
theorem QE {c:Code}{i:Nat} (h:H m Φ (awp P n0 c s (oU i Q) E)):H m Φ (awp P n0 (.block i c) s Q E):=h
theorem Ow {i:Nat} (h:H m Φ (Q .normal s)):H m Φ (oU i Q .normal s):=h
theorem O7 {i:Nat} (h:H m Φ (Q .ret s)):H m Φ (oU i Q .ret s):=h
theorem OC {i:Nat} (h:H m Φ (Q .normal s)):H m Φ (oU i Q (.exit i) s):=fun y h1 h2=>Um (h y h1 h2)
theorem Pm {i j:Nat} (hj:(j == i)=false) (h:H m Φ (Q (.exit j) s)):H m Φ (oU i Q (.exit j) s):=fun y h1 h2=>Ui hj (h y h1 h2)
theorem Rl (h:H m Φ (Q .normal s)):H m Φ (awp P n0 .skip s Q E):=h
theorem Rs {i:Nat} (h:H m Φ (Q (.exit i) s)):H m Φ (awp P n0 (.exit i) s Q E):=h
theorem RU (h:H m Φ (Q .ret s)):H m Φ (awp P n0 .ret s Q E):=h
theorem Qw {c:Operand}{t e:Code} (hc:s.eval c=.v (.bool true)) (h:H m Φ (awp P n0 t s Q E)):H m Φ (awp P n0 (.cond c t e) s Q E) :=
  fun y h1 h2=>IY hc (fun _=>h y h1 h2) (fun h=>by cases h)
theorem PM {c:Operand}{t e:Code} (hc:s.eval c=.v (.bool false)) (h:H m Φ (awp P n0 e s Q E)):H m Φ (awp P n0 (.cond c t e) s Q E) :=
  fun y h1 h2=>IY hc (fun h=>by cases h) (fun _=>h y h1 h2)
theorem OS {id:Nat}{l:List Oper} (h:H m Φ (cQ P l l s (Q .normal) E)):H m Φ (awp P n0 (.region id l.toArray false) s Q E):=fun y h1 h2=>MW (h y h1 h2)
theorem ND {id:Nat}{l:List Oper} (e1:P.follows .mixedOrders=true) (e2:Region.lexB .any l.toArray=true) (h:H m Φ (fD P l l s (Q .normal))):H m Φ (awp P n0 (.region id l.toArray true) s Q E):=fun y h1 h2=>KQ e1 e2 (h y h1 h2)
theorem Om {id:Nat}{l:List Oper} (e1:P.follows .mixedOrders=true) (e2:Region.lexB .any l.toArray=true) (h:H m Φ (eT P l.toArray l s (Q .normal))):H m Φ (awp P n0 (.region id l.toArray true) s Q E):=fun y h1 h2=>KY e1 e2 (h y h1 h2)
theorem QS {σ:Type}{ph:σ→List (Nat × AV)}{ob:σ→List Obj}{step:σ→Option (σ ⊕ β)}{s0:σ}{c:Code} (hw:b6 n0 s ⟨ov n (ph s0),ob s0⟩)
    (hb:∀ (Ψ:σ→Prop) (I:Nat→AS→Prop) (k:Nat),(∀ x',Ψ x'→∀ s',b6 n0 s' ⟨ov n (ph x'),ob x'⟩→pO n0 I k Q .normal s') →
      ∀ x,H (step x) (Sum.elim Ψ Φ) (awp P n0 c ⟨ov n (ph x),ob x⟩ (pO n0 I k Q) E)):H (bK ph ob step s0) Φ (awp P n0 (.loop c) s Q E):=by
  intro y hy hp
  obtain ⟨N,hN⟩:=wV.1 (show iter step s0=some y from hy)
  refine ⟨fun k s'=>∃ x,l7 step k x=some y∧s'=⟨ov n (ph x),ob x⟩,⟨N,_,hw,s0,hN,rfl⟩,?_⟩
  rintro k s' ⟨x,hx,rfl⟩
  cases k with
  | zero=>cases hx
  | succ k=>
    simp only [l7] at hx
    cases hs:step x with
    | none=>rw [hs] at hx; cases hx
    | some z=>
      rw [hs] at hx
      refine hb (fun x'=>l7 step k x'=some y) _ _ ?_ x z hs ?_
      · intro x' hx' s' hw'
        exact ⟨k,_,hw',Nat.lt_succ_self _,x',hx',rfl⟩
      · cases z with
        | inl x'=>exact hx
        | inr b=>simp at hx; subst hx; exact hp
theorem Nx {σ:Type}{ph:σ→List (Nat × AV)}{ob:σ→List Obj}{Ψ:σ→Prop}{N:AS→Prop}{x':σ}
    (hN:∀ x',Ψ x'→∀ s',b6 n0 s' ⟨ov n (ph x'),ob x'⟩→N s') (hw:b6 n0 s ⟨ov n (ph x'),ob x'⟩):H (aU x':Option (σ ⊕ β)) (Sum.elim Ψ Φ) (N s):=by
  intro y hy hp
  cases hy
  exact hN x' hp s hw
theorem E4 {σ:Type}{ph:σ→List (Nat × AV)}{ob:σ→List Obj}{rest:σ→Option β}{m:Option (σ ⊕ β)}{a b:Code}
    (hm:∀ (Ψ:σ→Prop) (N:AS→Prop),(∀ x',Ψ x'→∀ s',b6 n0 s' ⟨ov n (ph x'),ob x'⟩→rQ n0 N Q .normal s')→H m (Sum.elim Ψ Φ) (awp P n0 a s (rQ n0 N Q) E))
    (hr:∀ x,H (rest x) Φ (awp P n0 b ⟨ov n (ph x),ob x⟩ Q E)):H (pS ph ob rest m) Φ (awp P n0 (.seq a b) s Q E):=by
  intro y hy hp
  cases hmm:m with
  | none=>rw [hmm] at hy; cases hy
  | some z=>
    rw [hmm] at hy
    refine hm (fun x'=>rest x'=some y) (fun s'=>awp P n0 b s' Q E) ?_ z hmm ?_
    · intro x' hx' s' hw
      exact pH.of hw (hr x' y hx' hp)
    · cases z with
      | inl x'=>exact hy
      | inr v=>cases hy; exact hp
end
/-! ### Steps in a region -/
def F6 (P:Program) (o:Oper) (s s':AS):Prop:=∀ (N:AS→Prop) (E:AV→List Obj→Prop),N s'→aop P o s N E
section
variable {P:Program}{β:Type}{m:Option β}{Φ:β→Prop}{ops rest:List Oper}{K:AS→Prop}{E:AV→List Obj→Prop}{o:Oper}{s s':AS}
theorem MP (hg:o.guard=none) (hop:F6 P o s s') (h:H m Φ (cQ P ops rest s' K E)):H m Φ (cQ P ops (o :: rest) s K E):=by
  intro y h1 h2
  show dX P ops s o _ _ _
  unfold dX
  rw [hg]
  exact hop _ _ (h y h1 h2)
theorem Si (hg:o.guard=none) (hq:isQ o.op=true) (hop:F6 P o s s') (h:H m Φ (fD P ops rest s' K)):H m Φ (fD P ops (o :: rest) s K):=by
  intro y h1 h2
  refine ⟨hq,?_⟩
  unfold dX
  rw [hg]
  exact hop _ _ (h y h1 h2)
theorem Jm {j:Nat}{want:Bool} (hg:o.guard=some (j,want)) (hc:fR ops s j want=some true) (ht:dI P s o.op=none) (hop:F6 P o s s') (h:H m Φ (cQ P ops rest s' K E)):H m Φ (cQ P ops (o :: rest) s K E):=by
  intro y h1 h2
  show dX P ops s o _ _ _
  unfold dX
  rw [hg]
  dsimp only
  rw [hc]
  dsimp only
  rw [ht]
  dsimp only
  exact ⟨fun _=>hop _ _ (h y h1 h2),fun h=>(by cases h)⟩
theorem Tf {j:Nat}{want:Bool} (hg:o.guard=some (j,want)) (hc:fR ops s j want=some false) (ht:dI P s o.op=none) (h:H m Φ (cQ P ops rest (s.put o.dst (.cnd false .any)) K E)):H m Φ (cQ P ops (o :: rest) s K E):=by
  intro y h1 h2
  show dX P ops s o _ _ _
  unfold dX
  rw [hg]
  dsimp only
  rw [hc]
  dsimp only
  rw [ht]
  dsimp only
  exact ⟨fun h=>(by cases h),fun _=>h y h1 h2⟩
theorem S0 {j:Nat}{want g c:Bool}{v:AV} (hg:o.guard=some (j,want)) (hc:fR ops s j want=some g) (ht:dI P s o.op=some (c,v)) (hi:g=true→c=true) (h:H m Φ (cQ P ops rest (s.put o.dst (.cnd g v)) K E)):H m Φ (cQ P ops (o :: rest) s K E):=by
  intro y h1 h2
  show dX P ops s o _ _ _
  unfold dX
  rw [hg]
  dsimp only
  rw [hc]
  dsimp only
  rw [ht]
  dsimp only
  exact ⟨hi,h y h1 h2⟩
theorem SF {j:Nat}{want:Bool} (hg:o.guard=some (j,want)) (hc:fR ops s j want=some true) (ht:dI P s o.op=none) (hq:isQ o.op=true) (hop:F6 P o s s') (h:H m Φ (fD P ops rest s' K)):H m Φ (fD P ops (o :: rest) s K):=by
  intro y h1 h2
  refine ⟨hq,?_⟩
  unfold dX
  rw [hg]
  dsimp only
  rw [hc]
  dsimp only
  rw [ht]
  dsimp only
  exact ⟨fun _=>hop _ _ (h y h1 h2),fun h=>(by cases h)⟩
theorem RD {j:Nat}{want:Bool} (hg:o.guard=some (j,want)) (hc:fR ops s j want=some false) (ht:dI P s o.op=none) (hq:isQ o.op=true) (h:H m Φ (fD P ops rest (s.put o.dst (.cnd false .any)) K)):H m Φ (fD P ops (o :: rest) s K):=by
  intro y h1 h2
  refine ⟨hq,?_⟩
  unfold dX
  rw [hg]
  dsimp only
  rw [hc]
  dsimp only
  rw [ht]
  dsimp only
  exact ⟨fun h=>(by cases h),fun _=>h y h1 h2⟩
theorem Q3 {j:Nat}{want g c:Bool}{v:AV} (hg:o.guard=some (j,want)) (hc:fR ops s j want=some g) (ht:dI P s o.op=some (c,v)) (hq:isQ o.op=true) (hi:g=true→c=true) (h:H m Φ (fD P ops rest (s.put o.dst (.cnd g v)) K)):H m Φ (fD P ops (o :: rest) s K):=by
  intro y h1 h2
  refine ⟨hq,?_⟩
  unfold dX
  rw [hg]
  dsimp only
  rw [hc]
  dsimp only
  rw [ht]
  dsimp only
  exact ⟨hi,h y h1 h2⟩
theorem Ja {ops:Array Oper}{y:AV}{L:List Nat}{s1:AS} (hg:o.guard=none) (hL:o.looksAt ops=L) (h1:s.keep L=s1) (hop:F6 P o s1 (s1.put o.dst y)) (h:H m Φ (eT P ops rest (s.put o.dst y) K)):H m Φ (eT P ops (o :: rest) s K):=by
  intro z k1 k2
  subst hL; subst h1
  exact ⟨y,by unfold YA; rw [hg]; exact hop _ _ rfl,h z k1 k2⟩
theorem yJ {ops:Array Oper}{v:AV}{L:List Nat}{s1:AS}{j:Nat}{want g:Bool} (hg:o.guard=some (j,want)) (hL:o.looksAt ops=L) (h1:s.keep L=s1) (hc:fR ops.toList s1 j want=some g)
    (hop:(g=true→F6 P o s1 (s1.put o.dst v)) ∨ ∃ h,dI P s1 o.op=some (h,v)∧(g=true→h=true)) (h:H m Φ (eT P ops rest (s.put o.dst (.cnd g v)) K)):H m Φ (eT P ops (o :: rest) s K):=by
  intro z k1 k2
  subst hL; subst h1
  refine ⟨.cnd g v,?_,h z k1 k2⟩
  unfold YA; rw [hg]
  refine ⟨g,v,rfl,hc,?_⟩
  rcases hop with h | h
  · exact .inl fun hg=>h hg _ _ rfl
  · exact .inr h
end
end Go.Proofs.YtgkmbhllcekagaaGreatDoor.AM
/- What single operations yield, for the models. -/
namespace Go.Proofs.YtgkmbhllcekagaaGreatDoor.AM
open Go
/-! ### Values of models -/
abbrev Str:=List UInt8
def bs (l:Str):ByteArray:=⟨⟨l⟩⟩
def ltS (a b:Str):Bool:=Op.bytesLess a b
abbrev wI (x:Int):Int:=IntKind.i64.wrap x
def vI (x:Int):AV:=.v (.int .i64 x)
def vK (q:IntKind) (x:Int):AV:=.v (.int q x)
def vB (x:Bool):AV:=.v (.bool x)
def vS (x:Str):AV:=.v (.string (bs x))
def sl {α:Type} (c:α→List D) (l:List α):AV:=.sl (l.map c) .none
def sx {α:Type} (c:α→List D) (l:List α):AV:=.sl (l.map c) .exact
def so {α:Type} (o:Nat) (c:α→List D) (l:List α):AV:=.sl (l.map c) (.own o)
def ag {α:Type} (c:α→List D) (x:α):AV:=.agg ((c x).map .ofD)
def cI (x:Int):List D:=[.v (.int .i64 x)]
def cK (q:IntKind) (x:Int):List D:=[.v (.int q x)]
def cB (x:Bool):List D:=[.v (.bool x)]
def cS (x:Str):List D:=[.v (.string (bs x))]
def cL {α:Type} (c:α→List D) (l:List α):List D:=[.sl (l.map c)]
def tk (l sz e:Nat):Obj:=.tok l sz e true
theorem NP {a b:Str}:bs a=bs b ↔ a=b:=by
  constructor
  · intro h; cases h; rfl
  · rintro rfl; rfl
theorem Qp (a:Str):(bs a).size=a.length:=rfl
theorem Nk (a b:Str):bs a ++ bs b=bs (a ++ b):=by
  apply ByteArray.ext
  show (bs a ++ bs b).data=_
  simp [bs]
theorem Mm (a:Str) (l h:Nat):(bs a).extract l h=bs ((a.take h).drop l):=by
  apply ByteArray.ext
  rw [ByteArray.data_extract]
  apply Array.ext'
  simp [bs,List.extract_eq_take_drop,List.drop_take]
theorem NU (a:Str) {i:Nat}{c:UInt8} (h:a[i]?=some c):(bs a).get! i=c:=by
  have hi:i < a.length:=(List.getElem?_eq_some_iff.1 h).1
  rw [AM.get!_eq (bs a) i hi]
  exact (List.getElem?_eq_some_iff.1 h).2
def FN (q:IntKind) (a b:Int):Int:=q.wrap (BitVec.ofInt q.bits a &&& BitVec.ofInt q.bits b).toNat
def bOr (q:IntKind) (a b:Int):Int:=q.wrap (BitVec.ofInt q.bits a ||| BitVec.ofInt q.bits b).toNat
def Uf (q:IntKind) (a b:Int):Int:=q.wrap (BitVec.ofInt q.bits a ^^^ BitVec.ofInt q.bits b).toNat
def Uq (q:IntKind) (n:Int):Int:=q.wrap (BitVec.ofInt q.bits (if q.signed then -1 else q.max) ^^^ BitVec.ofInt q.bits n).toNat
def evo (n:Nat) (o:List (Nat × AV)):Operand→AV
  | .tmp t=>(if t < n then og o t else .any).un
  | .const v=>AV.ofValue v
  | .func f=>.fn f [] []
  | .global g=>xL g
def cX (n:Nat) (o:List (Nat × AV)):Operand→AV
  | .tmp t=>if t < n then og o t else .any
  | .const v=>AV.ofValue v
  | .func f=>.fn f [] []
  | .global g=>xL g
abbrev st (n:Nat) (o:List (Nat × AV)) (objs:List Obj):AS:=⟨ov n o,objs⟩
theorem aX (n:Nat) (o:List (Nat × AV)) (objs:List Obj) (x:Operand):(st n o objs).eval x=evo n o x:=by
  cases x with
  | tmp t=>exact LJ n o objs t
  | _=>rfl
theorem wA (n:Nat) (o:List (Nat × AV)) (objs:List Obj) (x:Operand):(st n o objs).raw x=cX n o x:=by
  cases x with
  | tmp t=>exact NX n o objs t
  | _=>rfl
structure Val (P:Program) (op:Op) (n:Nat) (o:List (Nat × AV)) (objs:List Obj) (v:AV):Prop where
  run:∀ (p:Oper) (N:AS→Prop) (E:AV→List Obj→Prop),p.op=op→N ((st n o objs).put p.dst v)→aop P p (st n o objs) N E
structure Eff (P:Program) (op:Op) (n:Nat) (o:List (Nat × AV)) (objs:List Obj) (v:AV) (objs':List Obj):Prop where
  run:∀ (p:Oper) (N:AS→Prop) (E:AV→List Obj→Prop),p.op=op→N { (st n o objs).put p.dst v with objs:=objs' }→aop P p (st n o objs) N E
section
variable {P:Program}{n:Nat}{o:List (Nat × AV)}{objs:List Obj}{x y z:Operand}{t t':TypeId}
theorem xO {v:AV} (h:evo n o x=v):Val P (.move x) n o objs v:=by
  refine ⟨?_⟩; intro p N E hp hN; unfold aop; rw [hp]; dsimp only; rw [aX,h]; exact hN
theorem xJ {v:AV} (h:evo n o x=v):Val P (.assign x) n o objs v:=by
  refine ⟨?_⟩; intro p N E hp hN; unfold aop; rw [hp]; dsimp only; rw [aX,h]; exact hN
theorem Ry {b g h p q:Bool} (hc:evo n o x=.v (.bool b)) (hx:(cX n o y).boolUn=some (g,p)) (hy:(cX n o z).boolUn=some (h,q)) (h1:b=true→g=true) (h2:b=false→h=true) :
    Val P (.pick x y z) n o objs (.v (.bool (bif b then p else q))):=by
  refine ⟨?_⟩; intro p N E hp hN; unfold aop; rw [hp]; dsimp only; rw [aX,wA,wA,hc]; unfold v6; rw [hx,hy]; exact ⟨h1,h2,hN⟩
theorem Qk {p:Bool} (hc:evo n o x=.v (.bool true)) (hx:(cX n o y).boolUn=some (true,p)) :
    Val P (.pick x y z) n o objs (.v (.bool p)):=by
  refine ⟨?_⟩; intro p N E hp hN; unfold aop; rw [hp]; dsimp only; rw [aX,wA,wA,hc]; unfold v6; rw [hx]
  cases (cX n o z).boolUn with
  | none=>exact ⟨rfl,rfl,hN⟩
  | some q=>exact ⟨fun _=>rfl,fun h=>(by cases h),hN⟩
theorem QB {q:Bool} (hc:evo n o x=.v (.bool false)) (hy:(cX n o z).boolUn=some (true,q)) :
    Val P (.pick x y z) n o objs (.v (.bool q)):=by
  refine ⟨?_⟩; intro p N E hp hN; unfold aop; rw [hp]; dsimp only; rw [aX,wA,wA,hc]; unfold v6; rw [hy]
  cases (cX n o y).boolUn with
  | none=>exact ⟨rfl,rfl,hN⟩
  | some q=>exact ⟨fun h=>(by cases h),fun _=>rfl,hN⟩
theorem eX {op:BinOp}{a b v:Value} (hab:∀ c d,¬ (a=.bool c∧b=.bool d)) (hx:evo n o x=.v a) (hy:evo n o y=.v b) (h:∀ k:Value→Prop,k v→xG op a b k):Val P (.binOp op t x y t') n o objs (.v v):=by
  refine ⟨?_⟩; intro p N E hp hN; unfold aop; rw [hp]; dsimp only; rw [aX,aX,hx,hy]; unfold wU
  split
  · rename_i e1 e2; cases e1; cases e2; exact (hab _ _ ⟨rfl,rfl⟩).elim
  · rename_i e1 e2; cases e1; cases e2; exact h (fun r=>N ((st n o objs).put p.dst (.v r))) hN
  · rename_i e1 e2; cases e1
  · rename_i e1 e2; cases e1
  · rename_i h1 _ _; exact (h1 _ _ rfl rfl).elim
section
variable {q:IntKind}{a b:Int} (hx:evo n o x=.v (.int q a)) (hy:evo n o y=.v (.int q b))
include hx hy
theorem S2:Val P (.binOp .add t x y t') n o objs (.v (.int q (q.wrap (a + b)))):=eX (fun _ _ h=>by cases h.1) hx hy fun _ h=>⟨rfl,h⟩
theorem TP:Val P (.binOp .sub t x y t') n o objs (.v (.int q (q.wrap (a - b)))):=eX (fun _ _ h=>by cases h.1) hx hy fun _ h=>⟨rfl,h⟩
theorem SM:Val P (.binOp .mul t x y t') n o objs (.v (.int q (q.wrap (a * b)))):=eX (fun _ _ h=>by cases h.1) hx hy fun _ h=>⟨rfl,h⟩
theorem SE (h0:b ≠ 0):Val P (.binOp .quo t x y t') n o objs (.v (.int q (q.wrap (a.tdiv b)))):=eX (fun _ _ h=>by cases h.1) hx hy fun _ h=>⟨rfl,h0,h⟩
theorem TE (h0:b ≠ 0):Val P (.binOp .rem t x y t') n o objs (.v (.int q (a.tmod b))):=eX (fun _ _ h=>by cases h.1) hx hy fun _ h=>⟨rfl,h0,h⟩
theorem S6:Val P (.binOp .eql t x y t') n o objs (.v (.bool (decide (a=b)))):=eX (fun _ _ h=>by cases h.1) hx hy fun _ h=>⟨rfl,h⟩
theorem Tq:Val P (.binOp .neq t x y t') n o objs (.v (.bool (!decide (a=b)))):=eX (fun _ _ h=>by cases h.1) hx hy fun _ h=>⟨rfl,h⟩
theorem T8:Val P (.binOp .lss t x y t') n o objs (.v (.bool (decide (a < b)))):=eX (fun _ _ h=>by cases h.1) hx hy fun _ h=>⟨rfl,h⟩
theorem Su:Val P (.binOp .leq t x y t') n o objs (.v (.bool (decide (a≤b)))):=eX (fun _ _ h=>by cases h.1) hx hy fun _ h=>⟨rfl,h⟩
theorem Tp:Val P (.binOp .gtr t x y t') n o objs (.v (.bool (decide (b < a)))):=eX (fun _ _ h=>by cases h.1) hx hy fun _ h=>⟨rfl,h⟩
theorem SP:Val P (.binOp .geq t x y t') n o objs (.v (.bool (decide (b≤a)))):=eX (fun _ _ h=>by cases h.1) hx hy fun _ h=>⟨rfl,h⟩
theorem T7:Val P (.binOp .and t x y t') n o objs (.v (.int q (FN q a b))):=eX (fun _ _ h=>by cases h.1) hx hy fun _ h=>⟨rfl,h⟩
theorem Up:Val P (.binOp .or t x y t') n o objs (.v (.int q (bOr q a b))):=eX (fun _ _ h=>by cases h.1) hx hy fun _ h=>⟨rfl,h⟩
theorem SU:Val P (.binOp .xor t x y t') n o objs (.v (.int q (Uf q a b))):=eX (fun _ _ h=>by cases h.1) hx hy fun _ h=>⟨rfl,h⟩
end
section
variable {q q':IntKind}{a b:Int} (hx:evo n o x=.v (.int q a)) (hy:evo n o y=.v (.int q' b)) (h0:0≤b)
include hx hy h0
theorem Td:Val P (.binOp .shl t x y t') n o objs (.v (.int q (q.wrap (a * 2 ^ min b.toNat q.bits)))):=eX (fun _ _ h=>by cases h.1) hx hy fun _ h=>⟨h0,h⟩
theorem S5:Val P (.binOp .shr t x y t') n o objs (.v (.int q (a / 2 ^ min b.toNat q.bits))):=eX (fun _ _ h=>by cases h.1) hx hy fun _ h=>⟨h0,h⟩
end
theorem vM (a b:Str):decide (bs a=bs b)=decide (a=b):=by rw [decide_eq_decide]; exact NP
section
variable {a b:Str} (hx:evo n o x=.v (.string (bs a))) (hy:evo n o y=.v (.string (bs b)))
include hx hy
theorem S7 (h:a.length + b.length≤9223372036854775807):Val P (.binOp .add t x y t') n o objs (.v (.string (bs (a ++ b)))):=eX (fun _ _ h=>by cases h.1) hx hy fun k hk=>⟨h,by rw [Nk]; exact hk⟩
theorem QW:Val P (.binOp .eql t x y t') n o objs (.v (.bool (decide (a=b)))):=eX (fun _ _ h=>by cases h.1) hx hy fun k hk=>by show k _; rw [vM]; exact hk
theorem Sa:Val P (.binOp .neq t x y t') n o objs (.v (.bool (!decide (a=b)))):=eX (fun _ _ h=>by cases h.1) hx hy fun k hk=>by show k _; rw [vM]; exact hk
theorem R0:Val P (.binOp .lss t x y t') n o objs (.v (.bool (ltS a b))):=eX (fun _ _ h=>by cases h.1) hx hy fun _ h=>h
theorem Sj:Val P (.binOp .leq t x y t') n o objs (.v (.bool (!ltS b a))):=eX (fun _ _ h=>by cases h.1) hx hy fun _ h=>h
theorem Sn:Val P (.binOp .gtr t x y t') n o objs (.v (.bool (ltS b a))):=eX (fun _ _ h=>by cases h.1) hx hy fun _ h=>h
theorem Q9:Val P (.binOp .geq t x y t') n o objs (.v (.bool (!ltS a b))):=eX (fun _ _ h=>by cases h.1) hx hy fun _ h=>h
end
section
variable {a b:Bool} (hx:evo n o x=.v (.bool a)) (hy:evo n o y=.v (.bool b)) (hu:P.underlying t=some .bool)
include hx hy hu
theorem RW:Val P (.binOp .eql t x y t') n o objs (.v (.bool (a == b))):=by
  refine ⟨?_⟩; intro p N E hp hN; unfold aop; rw [hp]; dsimp only; rw [aX,aX,hx,hy]; exact ⟨hu,hN⟩
theorem Rk:Val P (.binOp .neq t x y t') n o objs (.v (.bool (!(a == b)))):=by
  refine ⟨?_⟩; intro p N E hp hN; unfold aop; rw [hp]; dsimp only; rw [aX,aX,hx,hy]; exact ⟨hu,hN⟩
end
section
variable {xs ys:List AV}{b:Bool} (hx:evo n o x=.agg xs) (hy:evo n o y=.agg ys) (he:aeq P 9 t (.agg xs) (.agg ys)=some b) (hg:P.eqGuardType P.depth t=false)
include hx hy he hg
theorem Ru:Val P (.binOp .eql t x y t') n o objs (.v (.bool b)):=by
  refine ⟨?_⟩; intro p N E hp hN; unfold aop; rw [hp]; dsimp only; rw [aX,aX,hx,hy]; unfold wU; dsimp only; rw [he]; exact ⟨hg,hN⟩
theorem RJ:Val P (.binOp .neq t x y t') n o objs (.v (.bool (!b))):=by
  refine ⟨?_⟩; intro p N E hp hN; unfold aop; rw [hp]; dsimp only; rw [aX,aX,hx,hy]; unfold wU; dsimp only; rw [he]; exact ⟨hg,hN⟩
end
theorem Tl {b:Bool} (hx:evo n o x=.v (.bool b)):Val P (.unOp .not t x) n o objs (.v (.bool (!b))):=by
  refine ⟨?_⟩; intro p N E hp hN; unfold aop; rw [hp]; dsimp only; rw [aX,hx]; exact hN
theorem T4 {q:IntKind}{a:Int} (hx:evo n o x=.v (.int q a)):Val P (.unOp .neg t x) n o objs (.v (.int q (q.wrap (0 - a)))):=by
  refine ⟨?_⟩; intro p N E hp hN; unfold aop; rw [hp]; dsimp only; rw [aX,hx]; exact hN
theorem SQ {q:IntKind}{a:Int} (hx:evo n o x=.v (.int q a)):Val P (.unOp .xor t x) n o objs (.v (.int q (Uq q a))):=by
  refine ⟨?_⟩; intro p N E hp hN; unfold aop; rw [hp]; dsimp only; rw [aX,hx]; exact hN
theorem SZ {k off:Nat} (hx:evo n o x=.ptr k off):Val P (.nilCheck x) n o objs (.ptr k off):=by
  refine ⟨?_⟩; intro p N E hp hN; unfold aop; rw [hp]; dsimp only; rw [aX,hx]; exact hN
theorem Sz {rows:List (List D)}{i off:Nat}{tg:Tk} (hx:evo n o x=.ep rows i off tg):Val P (.nilCheck x) n o objs (.ep rows i off tg):=by
  refine ⟨?_⟩; intro p N E hp hN; unfold aop; rw [hp]; dsimp only; rw [aX,hx]; exact hN
/-! #### lengths -/
section
variable {ty:TypeId}{ct:Array TypeId}
theorem Rx {i:TI}{a:Str} (ht:ti P t=some i) (hd:i.desc=.string) (hx:evo n o x=.v (.string (bs a))):Val P (.call ⟨.builtin .len,#[x],#[t]⟩) n o objs (.v (.int .i64 (a.length:Int))):=by
  refine ⟨?_⟩; intro p N E hp hN; unfold aop; rw [hp]; dsimp only [List.map,Array.toList]
  rw [aX,hx]; unfold dC; dsimp only; refine Or.inl ?_; unfold rS; rw [ht]; dsimp only; rw [hd]; exact hN
theorem RY {α:Type}{c:α→List D}{l:List α}{i:TI}{e:TypeId}{tg:Tk} (ht:ti P t=some i) (hd:i.desc=.slice e) (hx:evo n o x=.sl (l.map c) tg):Val P (.call ⟨.builtin .len,#[x],#[t]⟩) n o objs (.v (.int .i64 (l.length:Int))):=by
  refine ⟨?_⟩; intro p N E hp hN; unfold aop; rw [hp]; dsimp only [List.map,Array.toList]
  rw [aX,hx]; unfold dC; dsimp only; refine Or.inl ?_; unfold rS; rw [ht]; dsimp only; rw [hd]; intro _; rw [List.length_map]; exact hN
theorem QN {i:TI}{e:TypeId} (ht:ti P t=some i) (hd:i.desc=.slice e) (hx:evo n o x=.v (.slice none 0 0)):Val P (.call ⟨.builtin .len,#[x],#[t]⟩) n o objs (.v (.int .i64 0)):=by
  refine ⟨?_⟩; intro p N E hp hN; unfold aop; rw [hp]; dsimp only [List.map,Array.toList]
  rw [aX,hx]; unfold dC; dsimp only; refine Or.inl ?_; unfold rS; rw [ht]; dsimp only; rw [hd]; exact hN
theorem Rz {i:TI}{e:TypeId}{k off len:Nat} (ht:ti P t=some i) (hd:i.desc=.slice e) (hx:evo n o x=.bsl k off len):Val P (.call ⟨.builtin .len,#[x],#[t]⟩) n o objs (.v (.int .i64 (len:Int))):=by
  refine ⟨?_⟩; intro p N E hp hN; unfold aop; rw [hp]; dsimp only [List.map,Array.toList]
  rw [aX,hx]; unfold dC; dsimp only; refine Or.inl ?_; unfold rS; rw [ht]; dsimp only; rw [hd]; exact hN
theorem R2 {i:TI}{k:Nat}{e:TypeId} (ht:ti P t=some i) (hd:i.desc=.array k e):Val P (.call ⟨.builtin .len,#[x],#[t]⟩) n o objs (.v (.int .i64 (k:Int))):=by
  refine ⟨?_⟩; intro p N E hp hN; unfold aop; rw [hp]; dsimp only [List.map,Array.toList]
  unfold dC; dsimp only; refine Or.inl ?_; unfold rS; rw [ht]; dsimp only; rw [hd]
  cases (st n o objs).eval x <;> exact hN
theorem Ub {q q':IntKind}{a b:Int} (hx:evo n o x=.v (.int q a)) (hy:evo n o y=.v (.int q' b)):Val P (.call ⟨.builtin .min,#[x,y],ct⟩) n o objs (.v (.int q (min a b))):=by
  refine ⟨?_⟩; intro p N E hp hN; unfold aop; rw [hp]; dsimp only [List.map,Array.toList]; rw [aX,aX,hx,hy]; exact hN
theorem TW {q q':IntKind}{a b:Int} (hx:evo n o x=.v (.int q a)) (hy:evo n o y=.v (.int q' b)):Val P (.call ⟨.builtin .max,#[x,y],ct⟩) n o objs (.v (.int q (max a b))):=by
  refine ⟨?_⟩; intro p N E hp hN; unfold aop; rw [hp]; dsimp only [List.map,Array.toList]; rw [aX,aX,hx,hy]; exact hN
end
/-! #### parts -/
theorem sX {i:Nat}{cs:List AV}{v:AV} (hx:evo n o x=.tup cs) (h:cs[i]?=some v):Val P (.extract x i) n o objs v:=by
  refine ⟨?_⟩; intro p N E hp hN; unfold aop; rw [hp]; dsimp only; rw [aX,hx]
  exact ⟨(List.getElem?_eq_some_iff.1 h).1,by rw [List.getD_eq_getElem?_getD,h]; exact hN⟩
theorem TH {i j:TI}{f:Nat}{fd:Field}{k off:Nat} (ht:ti P t=some i) (hf:lP i f=some fd) (hj:ti P fd.type=some j) (h0:j.size ≠ 0) (hx:evo n o x=.ptr k off):Val P (.fieldAddr t x f) n o objs (.ptr k (off + fd.offset)):=by
  refine ⟨?_⟩; intro p N E hp hN; unfold aop; rw [hp]; dsimp only; rw [aX,hx]; unfold mS; rw [ht]; dsimp only; rw [hf]; dsimp only; rw [hj]; exact ⟨h0,hN⟩
theorem Sy {i j:TI}{f:Nat}{fd:Field}{k off:Nat}{rows:List (List D)}{tg:Tk} (ht:ti P t=some i) (hf:lP i f=some fd) (hj:ti P fd.type=some j) (h0:j.size ≠ 0) (hx:evo n o x=.ep rows k off tg):Val P (.fieldAddr t x f) n o objs (.ep rows k (off + fd.offset) tg):=by
  refine ⟨?_⟩; intro p N E hp hN; unfold aop; rw [hp]; dsimp only; rw [aX,hx]; unfold mS; rw [ht]; dsimp only; rw [hf]; dsimp only; rw [hj]; exact ⟨h0,hN⟩
theorem T9 {i j:TI}{f:Nat}{fd:Field}{cs:List AV}{v:AV} (ht:ti P t=some i) (hf:lP i f=some fd) (hj:ti P fd.type=some j) (ha:j.isAgg=false) (hs:j.size=1) (hx:evo n o x=.agg cs) (h:cs[fd.offset]?=some v):Val P (.field t x f) n o objs v:=by
  refine ⟨?_⟩; intro p N E hp hN; unfold aop; rw [hp]; dsimp only; rw [aX,hx]; unfold uO; rw [ht]; dsimp only; rw [hf]; dsimp only; rw [hj]; dsimp only
  have hl:=(List.getElem?_eq_some_iff.1 h).1
  refine ⟨by omega,?_⟩
  rw [if_neg (by simp [ha])]
  exact ⟨by omega,by rw [List.getD_eq_getElem?_getD,h]; exact hN⟩
theorem RE {i j:TI}{f:Nat}{fd:Field}{cs l:List AV} (ht:ti P t=some i) (hf:lP i f=some fd) (hj:ti P fd.type=some j) (ha:j.isAgg=true) (hx:evo n o x=.agg cs) (hl:Nat.ble (fd.offset + j.size) cs.length=true) (h:(cs.drop fd.offset).take j.size=l):Val P (.field t x f) n o objs (.agg l):=by
  refine ⟨?_⟩; intro p N E hp hN; unfold aop; rw [hp]; dsimp only; rw [aX,hx]; unfold uO; rw [ht]; dsimp only; rw [hf]; dsimp only; rw [hj]; dsimp only
  refine ⟨Nat.le_of_ble_eq_true hl,?_⟩
  rw [if_pos ha,h]; exact hN
theorem Te {α:Type}{c:α→List D}{l:List α}{i j:TI}{e:TypeId}{tg:Tk}{q:IntKind}{k:Int}{r:α} (ht:ti P t=some i) (hd:i.desc=.slice e) (hj:ti P e=some j) (hx:evo n o x=.sl (l.map c) tg) (hy:evo n o y=.v (.int q k)) (h0:0≤k) (hr:l[k.toNat]?=some r) (hz:(c r).length=j.size) :
    Val P (.indexAddr t x y) n o objs (.ep (l.map c) k.toNat 0 tg):=by
  refine ⟨?_⟩; intro p N E hp hN; unfold aop; rw [hp]; dsimp only; rw [aX,aX,hx,hy]; unfold jM; rw [ht]; dsimp only; rw [hd]; dsimp only; rw [hj]; dsimp only
  have hl:=(List.getElem?_eq_some_iff.1 hr).1
  refine ⟨h0,by rw [List.length_map]; omega,?_,hN⟩
  rw [List.getD_eq_getElem?_getD,List.getElem?_map,hr]; exact hz
theorem Tj {i j:TI}{e:TypeId}{q:IntKind}{m off len:Nat}{k:Int} (ht:ti P t=some i) (hd:i.desc=.slice e) (hj:ti P e=some j) (hx:evo n o x=.bsl m off len) (hy:evo n o y=.v (.int q k)) (h:0≤k∧k < len) :
    Val P (.indexAddr t x y) n o objs (.ptr m (off + k.toNat * j.size)):=by
  refine ⟨?_⟩; intro p N E hp hN; unfold aop; rw [hp]; dsimp only; rw [aX,aX,hx,hy]; unfold jM; rw [ht]; dsimp only; rw [hd]; dsimp only; rw [hj]; exact ⟨h.1,h.2,hN⟩
theorem TS {i j:TI}{e:TypeId}{q:IntKind}{m off len:Nat}{k:Int} (ht:ti P t=some i) (hd:i.desc=.array len e) (hj:ti P e=some j) (hx:evo n o x=.ptr m off) (hy:evo n o y=.v (.int q k)) (h:0≤k∧k < len) :
    Val P (.indexAddr t x y) n o objs (.ptr m (off + k.toNat * j.size)):=by
  refine ⟨?_⟩; intro p N E hp hN; unfold aop; rw [hp]; dsimp only; rw [aX,aX,hx,hy]; unfold jM; rw [ht]; dsimp only; rw [hd]; dsimp only; rw [hj]; exact ⟨h.1,h.2,hN⟩
theorem Ti {i:TI}{q:IntKind}{a:Str}{k:Int}{c:UInt8} (ht:ti P t=some i) (hd:i.desc=.string) (hx:evo n o x=.v (.string (bs a))) (hy:evo n o y=.v (.int q k)) (h0:0≤k) (hr:a[k.toNat]?=some c) :
    Val P (.index t x y) n o objs (.v (.int .u8 (c.toNat:Int))):=by
  refine ⟨?_⟩; intro p N E hp hN; unfold aop; rw [hp]; dsimp only; rw [aX,aX,hx,hy]; unfold oJ; rw [ht]; dsimp only; rw [hd]; dsimp only
  have hl:=(List.getElem?_eq_some_iff.1 hr).1
  refine ⟨h0,by rw [Qp]; omega,?_⟩
  rw [NU a hr]; exact hN
/-! #### loads -/
theorem S9 {i:TI}{k off:Nat}{cells:List AV}{v:AV} (ht:ti P t=some i) (ha:i.isAgg=false) (hs:i.size=1) (hx:evo n o x=.ptr k off) (ho:objs[k]?=some (.box cells)) (h:cells[off]?=some v):Val P (.load t x) n o objs v:=by
  refine ⟨?_⟩; intro p N E hp hN; unfold aop; rw [hp]; dsimp only; rw [aX,hx]; unfold jJ; rw [ht]; dsimp only; rw [ho]; dsimp only
  have hl:=(List.getElem?_eq_some_iff.1 h).1
  refine ⟨by omega,?_⟩
  rw [if_neg (by simp [ha])]
  exact ⟨hs,by rw [List.getD_eq_getElem?_getD,h]; exact hN⟩
theorem Rg {i:TI}{k off:Nat}{cells l:List AV} (ht:ti P t=some i) (ha:i.isAgg=true) (hx:evo n o x=.ptr k off) (ho:objs[k]?=some (.box cells)) (hl:Nat.ble (off + i.size) cells.length=true) (h:(cells.drop off).take i.size=l):Val P (.load t x) n o objs (.agg l):=by
  refine ⟨?_⟩; intro p N E hp hN; unfold aop; rw [hp]; dsimp only; rw [aX,hx]; unfold jJ; rw [ht]; dsimp only; rw [ho]; dsimp only
  refine ⟨Nat.le_of_ble_eq_true hl,?_⟩
  rw [if_pos ha,h]; exact hN
theorem PL {α:Type}{c:α→List D}{l:List α}{i:TI}{k off:Nat}{tg:Tk}{r:α}{d:D} (ht:ti P t=some i) (ha:i.isAgg=false) (hs:i.size=1) (hx:evo n o x=.ep (l.map c) k off tg) (hr:l[k]?=some r) (h:(c r)[off]?=some d):Val P (.load t x) n o objs (.ofD d):=by
  refine ⟨?_⟩; intro p N E hp hN; unfold aop; rw [hp]; dsimp only; rw [aX,hx]; unfold jJ; rw [ht]; dsimp only
  have hl:=(List.getElem?_eq_some_iff.1 hr).1
  have hg:(l.map c).getD k []=c r:=by rw [List.getD_eq_getElem?_getD,List.getElem?_map,hr]; rfl
  have hl2:=(List.getElem?_eq_some_iff.1 h).1
  rw [hg]
  refine Or.inl ⟨by rw [List.length_map]; omega,by omega,?_⟩
  rw [if_neg (by simp [ha])]
  exact ⟨hs,by rw [List.getD_eq_getElem?_getD,h]; exact hN⟩
theorem RS {α:Type}{c:α→List D}{l:List α}{i:TI}{k off:Nat}{tg:Tk}{r:α}{d:Value} (ht:ti P t=some i) (ha:i.isAgg=false) (hs:i.size=1) (hx:evo n o x=.ep (l.map c) k off tg) (hr:l[k]?=some r) (h:(c r)[off]?=some (.v d)):Val P (.load t x) n o objs (.v d):=PL ht ha hs hx hr h
theorem Sd {α:Type}{c:α→List D}{l:List α}{i:TI}{k off:Nat}{tg:Tk}{r:α}{d:List (List D)} (ht:ti P t=some i) (ha:i.isAgg=false) (hs:i.size=1) (hx:evo n o x=.ep (l.map c) k off tg) (hr:l[k]?=some r) (h:(c r)[off]?=some (.sl d)):Val P (.load t x) n o objs (.sl d .none):=PL ht ha hs hx hr h
theorem M6 {α:Type}{c:α→List D}{l:List α}{i:TI}{k off:Nat}{tg:Tk}{r:α}{cs:List AV} (ht:ti P t=some i) (ha:i.isAgg=true) (hx:evo n o x=.ep (l.map c) k off tg) (hr:l[k]?=some r) (hl:Nat.ble (off + i.size) (c r).length=true) (h:(((c r).drop off).take i.size).map .ofD=cs):Val P (.load t x) n o objs (.agg cs):=by
  refine ⟨?_⟩; intro p N E hp hN; unfold aop; rw [hp]; dsimp only; rw [aX,hx]; unfold jJ; rw [ht]; dsimp only
  have hk:=(List.getElem?_eq_some_iff.1 hr).1
  have hg:(l.map c).getD k []=c r:=by rw [List.getD_eq_getElem?_getD,List.getElem?_map,hr]; rfl
  rw [hg]
  refine Or.inl ⟨by rw [List.length_map]; omega,Nat.le_of_ble_eq_true hl,?_⟩
  rw [if_pos ha,h]; exact hN
/-! #### new values -/
theorem SX {parts:Array (Nat × Operand)}{i:TI}{cs:List AV} (ht:ti P t=some i) (ha:(match i.desc with | .struct fs=>wT P fs.toList=true | .array _ e=>(ti P e).isSome=true | _=>False)) (h:iV (n8 P i) (i.zero.map .v) (parts.toList.map fun p=>(p.1,evo n o p.2))=some cs):Val P (.build t parts) n o objs (.agg cs):=by
  refine ⟨?_⟩; intro p N E hp hN; unfold aop; rw [hp]; dsimp only; unfold yP; rw [ht]; dsimp only
  have e:(parts.toList.map fun p=>(p.1,(st n o objs).eval p.2))=parts.toList.map fun p=>(p.1,evo n o p.2):=by simp only [aX]
  rw [e,h]; exact ⟨ha,hN⟩
theorem MQ {parts:Array (Nat × Operand)}{i j:TI}{e:TypeId}{len:Nat}{out:List AV}{rows:List (List D)} (ht:ti P t=some i) (hd:i.desc=.slice e) (hj:ti P e=some j) (h0:0 < j.size) (h1:len * j.size≤16777216)
    (h:iV (fun q=>some (q * j.size,j.size)) (rT j.zero j.size len) (parts.toList.map fun p=>(p.1,evo n o p.2))=some out) (hc:qS j.size out len=some rows):Val P (.buildSlice t len parts) n o objs (.sl rows .exact):=by
  refine ⟨?_⟩; intro p N E hp hN; unfold aop; rw [hp]; dsimp only; refine Or.inl ?_; unfold nL; rw [ht]; dsimp only; rw [hd]; dsimp only; rw [hj]; dsimp only
  have e:(parts.toList.map fun p=>(p.1,(st n o objs).eval p.2))=parts.toList.map fun p=>(p.1,evo n o p.2):=by simp only [aX]
  rw [e,h]; dsimp only; rw [hc]; exact ⟨h0,h1,hN⟩
theorem PE {f:Nat}{first cap:Array Operand}:Val P (.makeFunc (.func f) first cap) n o objs (.fn f (first.toList.map (evo n o)) (cap.toList.map (evo n o))):=by
  refine ⟨?_⟩; intro p N E hp hN; unfold aop; rw [hp]; dsimp only
  have e:(st n o objs).eval=evo n o:=funext fun x=>aX n o objs x
  rw [e]; exact hN
/-! #### converted -/
theorem SA {i j:TI}{q q':IntKind}{a:Int} (ht:ti P t=some i) (hj:ti P t'=some j) (hd:j.desc=.int q) (hx:evo n o x=.v (.int q' a)):Val P (.convert t t' x) n o objs (.v (.int q (q.wrap a))):=by
  refine ⟨?_⟩; intro p N E hp hN; unfold aop; rw [hp]; dsimp only; refine Or.inl ?_; rw [aX,hx]; unfold v8; rw [ht,hj]; dsimp only; rw [hd]; exact hN
theorem PH {i j:TI}{a:Str} (ht:ti P t=some i) (hj:ti P t'=some j) (hd:j.desc=.string) (hx:evo n o x=.v (.string (bs a))):Val P (.convert t t' x) n o objs (.v (.string (bs a))):=by
  refine ⟨?_⟩; intro p N E hp hN; unfold aop; rw [hp]; dsimp only; refine Or.inl ?_; rw [aX,hx]; unfold v8; rw [ht,hj]; dsimp only; rw [hd]; exact hN
def fG (l:List Int):Str:=l.map fun x=>UInt8.ofNat x.toNat
theorem KD (l:List Int):pZ (l.map (cK .u8))=some (fG l):=by
  induction l with
  | nil=>rfl
  | cons a l ih=>simp only [List.map_cons,pZ,ih,cK,CD,fG]
theorem SI {i j ei:TI}{e:TypeId}{l:List Int}{tg:Tk} (ht:ti P t=some i) (hj:ti P t'=some j) (hd:j.desc=.string) (hi:i.desc=.slice e) (he:ti P e=some ei) (hu:ei.desc=.int .u8) (hx:evo n o x=.sl (l.map (cK .u8)) tg):Val P (.convert t t' x) n o objs (.v (.string (bs (fG l)))):=by
  refine ⟨?_⟩; intro p N E hp hN; unfold aop; rw [hp]; dsimp only; refine Or.inl ?_; rw [aX,hx]; unfold v8; rw [ht,hj]; dsimp only; rw [hd]; dsimp only; rw [hi]; dsimp only; rw [he,KD]; exact ⟨hu,hN⟩
/-! #### parts of slices and texts -/
theorem SS {i:TI}{lo hi:Option Operand}{a:Str}{l h:Int} (ht:ti P t=some i) (hd:i.desc=.string) (hx:evo n o x=.v (.string (bs a))) (hl:cT (lo.map (evo n o)) 0=some l) (hh:cT (hi.map (evo n o)) (a.length:Int)=some h) (hb:0≤l∧l≤h∧h≤(a.length:Int)) :
    Val P (.slice t x lo hi none) n o objs (.v (.string (bs ((a.take h.toNat).drop l.toNat)))):=by
  refine ⟨?_⟩; intro p N E hp hN; unfold aop; rw [hp]; dsimp only
  have e:(st n o objs).eval=evo n o:=funext fun x=>aX n o objs x
  rw [e,hx]; unfold oL; rw [ht]; dsimp only; rw [hd]
  have hh':cT (hi.map (evo n o)) ((bs a).size:Int)=some h:=hh
  have hl':cT (lo.map (evo n o)) 0=some l:=hl
  cases lo <;> cases hi <;> simp only [Option.map] at hl' hh' ⊢ <;> rw [hl',hh'] <;> exact ⟨hb.1,hb.2.1,hb.2.2,by rw [Mm]; exact hN⟩
theorem MM {α:Type}{c:α→List D}{i j:TI}{e:TypeId}{lo hi:Option Operand}{s:List α}{tg:Tk}{l h:Int} (ht:ti P t=some i) (hd:i.desc=.slice e) (hj:ti P e=some j) (hz:∀ r,(c r).length=j.size) (hx:evo n o x=.sl (s.map c) tg) (hl:cT (lo.map (evo n o)) 0=some l) (hh:cT (hi.map (evo n o)) (s.length:Int)=some h) (hb:0≤l∧l≤h∧h≤(s.length:Int)) :
    Val P (.slice t x lo hi none) n o objs (.sl (((s.take h.toNat).drop l.toNat).map c) tg.sub):=by
  refine ⟨?_⟩; intro p N E hp hN; unfold aop; rw [hp]; dsimp only
  have e:(st n o objs).eval=evo n o:=funext fun x=>aX n o objs x
  rw [e,hx]; unfold oL; rw [ht]; dsimp only; rw [hd]; dsimp only; rw [hj]
  have hm:∀ r ∈ s.map c,r.length=j.size:=by intro r hr; obtain ⟨q,_,rfl⟩:=List.mem_map.1 hr; exact hz q
  have hN':N ((st n o objs).put p.dst (.sl (((s.map c).take h.toNat).drop l.toNat) tg.sub)):=by rw [← List.map_take,← List.map_drop]; exact hN
  rw [hl,List.length_map,hh]
  exact ⟨hm,hb.1,hb.2.1,hb.2.2,hN'⟩
theorem Tv {i j:TI}{e:TypeId}{lo hi:Option Operand} (ht:ti P t=some i) (hd:i.desc=.slice e) (hj:ti P e=some j) (hx:evo n o x=.v (.slice none 0 0)) (hl:cT (lo.map (evo n o)) 0=some 0) (hh:cT (hi.map (evo n o)) 0=some 0) :
    Val P (.slice t x lo hi none) n o objs (.v (.slice none 0 0)):=by
  refine ⟨?_⟩; intro p N E hp hN; unfold aop; rw [hp]; dsimp only
  have e:(st n o objs).eval=evo n o:=funext fun x=>aX n o objs x
  rw [e,hx]; unfold oL; rw [ht]; dsimp only; rw [hd]; simp only [hj]; rw [hl,hh]
  exact ⟨rfl,rfl,rfl,fun h=>(by cases h),hN⟩
theorem Qr {e:TypeId}{i:TI}{k:Nat}{cells:List AV} (ht:ti P e=some i) (hk:objs.length=k) (hz:i.zero.map .v=cells):Eff P (.alloc e) n o objs (.ptr k 0) (objs ++ [.box cells]):=by
  refine ⟨?_⟩; intro p N E hp hN; unfold aop; rw [hp]; dsimp only; rw [ht]; subst hk; subst hz; exact .inl hN
theorem SL {e:TypeId}{i:TI}{k:Nat}{cs:List AV} (ht:ti P e=some i) (hk:objs.length=k) (hx:hU (evo n o x)=some cs):Eff P (.box e x) n o objs (.ptr k 0) (objs ++ [.box cs]):=by
  refine ⟨?_⟩; intro p N E hp hN; unfold aop; rw [hp]; dsimp only; rw [ht,aX,hx]; subst hk; exact hN
theorem Lu {i:TI}{k off:Nat}{cells xs cs':List AV} (ht:ti P t=some i) (hx:evo n o x=.ptr k off) (hy:hU (evo n o y)=some xs) (ho:objs[k]?=some (.box cells)) (hs:xs.length=i.size) (hl:Nat.ble (off + xs.length) cells.length=true) (hf:setFrom cells off xs=cs'):Eff P (.store t x y) n o objs .any (objs.set k (.box cs')):=by
  refine ⟨?_⟩; intro p N E hp hN; unfold aop; rw [hp]; dsimp only; rw [aX,aX,hx]; unfold sD; rw [ht,hy]; dsimp only; rw [ho]; subst hf; exact ⟨hs,Nat.le_of_ble_eq_true hl,hN⟩
theorem T5 {k:Nat} (hk:objs.length=k):Eff P (.makeMap t none) n o objs (.map k) (objs ++ [.map []]):=by
  refine ⟨?_⟩; intro p N E hp hN; unfold aop; rw [hp]; dsimp only; subst hk; exact hN
theorem TY {i j:TI}{e:TypeId}{k:Nat}{m:Int} (ht:ti P t=some i) (hd:i.desc=.slice e) (hj:ti P e=some j) (h0:0 < j.size) (hx:evo n o x=.v (.int .i64 m)) (hy:evo n o y=.v (.int .i64 m)) (hm:0≤m∧m≤9223372036854775807∧m.toNat * j.bytes≤281474976710656) (hk:objs.length=k):Eff P (.makeSlice t x y) n o objs (.bsl k 0 m.toNat) (objs ++ [.box (rT j.zero j.size m.toNat)]):=by
  refine ⟨?_⟩; intro p N E hp hN; unfold aop; rw [hp]; dsimp only; rw [aX,aX,hx,hy]; unfold sN; rw [ht]; dsimp only; rw [hd]; dsimp only; rw [hj]; subst hk; exact ⟨h0,rfl,hm.1,hm.2.1,hm.2.2,hN⟩
section
variable {α:Type}{c:α→List D}{i j:TI}{e:TypeId}{l l2:List α}{tg:Tk} (ht:ti P t=some i) (hd:i.desc=.slice e) (hj:ti P e=some j) (h0:0 < j.size∧0 < j.bytes) (hz:∀ r,(c r).length=j.size)
include ht hd hj h0 hz
theorem sJ (hy:evo n o y=.sl (l2.map c) tg):mR P t t e (evo n o y)=some (l2.map c)∧∀ r ∈ l2.map c,r.length=j.size:=by
  rw [hy]
  refine ⟨by simp [mR],fun r hr=>?_⟩
  obtain ⟨q,_,rfl⟩:=List.mem_map.1 hr; exact hz q
theorem QY (hx:evo n o x=.v (.slice none 0 0)) (hy:evo n o y=.sl (l2.map c) tg) (hb:l2.length * j.bytes≤140737488355328) :
    Eff P (.call ⟨.builtin .append,#[x,y],#[t,t]⟩) n o objs (.sl (l2.map c) (.own objs.length)) (objs ++ [.tok l2.length j.size e true]):=by
  refine ⟨?_⟩; intro p N E hp hN; unfold aop; rw [hp]; dsimp only [List.map,Array.toList]; rw [aX,aX,hx]
  obtain ⟨k1,k2⟩:=sJ ht hd hj h0 hz hy
  unfold dC; dsimp only; unfold jU; rw [ht]; dsimp only; rw [hd]; dsimp only; rw [hj]; dsimp only; rw [k1]
  exact ⟨h0.1,h0.2,k2,by rw [List.length_map]; exact hb,by rw [List.length_map]; exact hN⟩
theorem Rm (hx:evo n o x=.sl (l.map c) .exact) (hy:evo n o y=.sl (l2.map c) tg) (hpos:0 < l.length + l2.length) (hb:(l.length + l2.length) * j.bytes≤140737488355328) :
    Eff P (.call ⟨.builtin .append,#[x,y],#[t,t]⟩) n o objs (.sl ((l ++ l2).map c) (.own objs.length)) (objs ++ [.tok (l ++ l2).length j.size e l.isEmpty]):=by
  refine ⟨?_⟩; intro p N E hp hN; unfold aop; rw [hp]; dsimp only [List.map,Array.toList]; rw [aX,aX,hx]
  obtain ⟨k1,k2⟩:=sJ ht hd hj h0 hz hy
  obtain ⟨_,k3⟩:=sJ (l2:=l) (tg:=.exact) (y:=x) ht hd hj h0 hz hx
  unfold dC; dsimp only; unfold jU; rw [ht]; dsimp only; rw [hd]; dsimp only; rw [hj]; dsimp only; rw [k1]
  refine ⟨h0.1,h0.2,k2,by rw [List.length_map,List.length_map]; exact hpos,k3,by rw [List.length_map,List.length_map]; exact hb,?_⟩
  rw [List.length_map,List.length_map,← List.map_append,List.isEmpty_map,← List.length_append]; exact hN
theorem Q6 {k:Nat}{ex:Bool}{len:Nat} (hx:evo n o x=.sl (l.map c) (.own k)) (hy:evo n o y=.sl (l2.map c) tg) (ho:objs[k]?=some (.tok len j.size e ex)) (hln:len=l.length) (hb:(l.length + l2.length) * j.bytes≤140737488355328) :
    Eff P (.call ⟨.builtin .append,#[x,y],#[t,t]⟩) n o objs (.sl ((l ++ l2).map c) (.own k)) (objs.set k (.tok (l ++ l2).length j.size e ex)):=by
  refine ⟨?_⟩; intro p N E hp hN; unfold aop; rw [hp]; dsimp only [List.map,Array.toList]; rw [aX,aX,hx]
  obtain ⟨k1,k2⟩:=sJ ht hd hj h0 hz hy
  obtain ⟨_,k3⟩:=sJ (l2:=l) (tg:=.own k) (y:=x) ht hd hj h0 hz hx
  unfold dC; dsimp only; unfold jU; rw [ht]; dsimp only; rw [hd]; dsimp only; rw [hj]; dsimp only; rw [k1]; dsimp only; rw [ho]
  refine ⟨h0.1,h0.2,k2,by rw [List.length_map]; exact hln,rfl,rfl,k3,by rw [List.length_map,List.length_map]; exact hb,?_⟩
  rw [List.length_map,List.length_map,← List.map_append,← List.length_append]; exact hN
end
end
/-! ### Steps -/
section
variable {P:Program}{β:Type}{m:Option β}{Φ:β→Prop}{ops rest:List Oper}{K:AS→Prop}{E:AV→List Obj→Prop}{n d:Nat}{o:List (Nat × AV)}{objs objs':List Obj}{op:Op}{ty:TypeId}{pos:String}{af:Array Edge}{v:AV}
theorem S_v (hop:Val P op n o objs v) (h:H m Φ (cQ P ops rest (st n (oc d v o) objs) K E)):H m Φ (cQ P ops (⟨some d,op,ty,pos,af,none⟩ :: rest) (st n o objs) K E) :=
  MP (s':=st n (oc d v o) objs) rfl (fun N E hN=>hop.run _ N E rfl hN) h
theorem S_e (hop:Eff P op n o objs v objs') (h:H m Φ (cQ P ops rest (st n (oc d v o) objs') K E)):H m Φ (cQ P ops (⟨some d,op,ty,pos,af,none⟩ :: rest) (st n o objs) K E) :=
  MP (s':=st n (oc d v o) objs') rfl (fun N E hN=>hop.run _ N E rfl hN) h
theorem Un (hop:Eff P op n o objs v objs') (h:H m Φ (cQ P ops rest (st n o objs') K E)):H m Φ (cQ P ops (⟨none,op,ty,pos,af,none⟩ :: rest) (st n o objs) K E) :=
  MP (s':=st n o objs') rfl (fun N E hN=>hop.run _ N E rfl hN) h
end
end Go.Proofs.YtgkmbhllcekagaaGreatDoor.AM
/- What may be forgotten, calls and answers, for the models. -/
namespace Go.Proofs.YtgkmbhllcekagaaGreatDoor.AM
open Go
/-! ### What may be forgotten -/
def leC:List AV→List AV→Prop
  | _,[]=>True
  | x :: xs,y :: ys=>x.le y∧leC xs ys
  | [],_ :: _=>False
def E5:Obj→Obj→Prop
  | .box cs,.box ds=>leC cs ds
  | .box _,.dead=>True
  | .map _,.dead=>True
  | .mapB _ _ _,.dead=>True
  | .iter _ _ _,.dead=>True
  | .siter _ _,.dead=>True
  | .bld _ _,.dead=>True
  | .lin _ _ _ _,.dead=>True
  | .tok _ _ _ ex,.dead=>ex=false
  | .mapB _ _ es,.map es'=>es=es'
  | x,y=>x=y
def leOb:List Obj→List Obj→Prop
  | _,[]=>True
  | x :: xs,y :: ys=>E5 x y∧leOb xs ys
  | [],_ :: _=>False
theorem AG (xs:List Obj):leOb xs []:=by cases xs <;> trivial
theorem Lr:∀ {xs ys:List AV},leC xs ys→ys.length≤xs.length∧∀ (i:Nat) (x y:AV),xs[i]?=some x→ys[i]?=some y→x.le y
  | xs,[],_=>⟨Nat.zero_le _,fun i x y _ h=>by simp at h⟩
  | [],_ :: _,h=>h.elim
  | x :: xs,y :: ys,h=>by
    obtain ⟨k1,k2⟩:=Lr h.2
    refine ⟨by simpa using k1,fun i a b ha hb=>?_⟩
    cases i with
    | zero=>simp at ha hb; subst ha; subst hb; exact h.1
    | succ i=>exact k2 i a b (by simpa using ha) (by simpa using hb)
theorem Im {G:aL}{w:World}{g:GB}{x y:Obj} (h:E5 x y) (hx:g9 G w g x):g9 G w g y:=by
  cases x with
  | box cs=>
    cases y with
    | box ds=>
      obtain ⟨k1,k2⟩:=Lr h
      rcases hx with ⟨rfl,l,hl⟩ | ⟨b,c,e,e1,e2,e3,e4,e5⟩
      · have:ds=[]:=List.eq_nil_of_length_eq_zero (by simpa using k1)
        exact .inl ⟨this,l,hl⟩
      · refine .inr ⟨b,c,e,e1,e2,by omega,fun j z v hz hv=>?_,e5⟩
        have hj:j < ds.length:=(List.getElem?_eq_some_iff.1 hz).1
        have hj':j < cs.length:=by omega
        obtain ⟨q1,q2⟩:=e4 j cs[j] v (List.getElem?_eq_getElem hj') hv
        exact ⟨q1,AV.le_sound (k2 j _ _ (List.getElem?_eq_getElem hj') hz) q2⟩
    | dead=>
      rcases hx with ⟨_,l,rfl⟩ | ⟨b,c,e,rfl,_⟩
      · intro b l c sz h; cases h
      · intro b l c sz h; cases h
    | tok=>cases h
    | map=>cases h
    | mapB=>cases h
    | iter=>cases h
    | siter=>cases h
    | bld=>cases h
    | lin=>cases h
  | tok l sz e ex=>
    cases y with
    | dead=>
      have he:ex=false:=h
      subst he
      rcases hx with ⟨rfl,_⟩ | ⟨b,cap,cur,rfl,_⟩
      · intro b l c sz h; cases h
      · intro b l c sz h; cases h
    | tok=>cases h; exact hx
    | _=>cases h
  | map=>
    cases y with
    | dead=>obtain ⟨b,_,_,rfl,_⟩:=hx; intro b l c sz h; cases h
    | map=>cases h; exact hx
    | box=>cases h
    | tok=>cases h
    | mapB=>cases h
    | iter=>cases h
    | siter=>cases h
    | bld=>cases h
    | lin=>cases h
  | mapB=>
    cases y with
    | dead=>obtain ⟨b,_,rfl,_⟩:=hx; intro b l c sz h; cases h
    | map=>obtain ⟨rfl⟩:=h; obtain ⟨b,ents,h1,h2,h3,h4,h5,h6,h7⟩:=hx; exact ⟨b,ents,_,h1,h2,h3,h4,h5,h7⟩
    | mapB=>cases h; exact hx
    | box=>cases h
    | tok=>cases h
    | iter=>cases h
    | siter=>cases h
    | bld=>cases h
    | lin=>cases h
  | iter=>
    cases y with
    | dead=>obtain ⟨b,_,rfl,_⟩:=hx; intro b l c sz h; cases h
    | iter=>cases h; exact hx
    | siter=>cases h
    | map=>cases h
    | mapB=>cases h
    | box=>cases h
    | tok=>cases h
    | bld=>cases h
    | lin=>cases h
  | siter=>
    cases y with
    | dead=>obtain ⟨b,rfl,_⟩:=hx; intro b l c sz h; cases h
    | siter=>cases h; exact hx
    | _=>cases h
  | bld=>
    cases y with
    | dead=>obtain ⟨b,_,_,rfl,_⟩:=hx; intro b l c sz h; cases h
    | bld=>cases h; exact hx
    | map=>cases h
    | mapB=>cases h
    | box=>cases h
    | tok=>cases h
    | iter=>cases h
    | siter=>cases h
    | lin=>cases h
  | lin=>
    cases y with
    | dead=>rcases hx with ⟨_,_,rfl⟩ | ⟨b,_,_,rfl,_⟩ <;> (intro b l c sz h; cases h)
    | lin=>cases h; exact hx
    | bld=>cases h
    | map=>cases h
    | mapB=>cases h
    | box=>cases h
    | tok=>cases h
    | iter=>cases h
    | siter=>cases h
  | dead=>cases y <;> first | (cases h; exact hx) | cases h
theorem DG:∀ {xs ys:List Obj},leOb xs ys→ys.length≤xs.length∧∀ (i:Nat) (x y:Obj),xs[i]?=some x→ys[i]?=some y→E5 x y
  | xs,[],_=>⟨Nat.zero_le _,fun i x y _ h=>by simp at h⟩
  | [],_ :: _,h=>h.elim
  | x :: xs,y :: ys,h=>by
    obtain ⟨k1,k2⟩:=DG h.2
    refine ⟨by simpa using k1,fun i a b ha hb=>?_⟩
    cases i with
    | zero=>simp at ha hb; subst ha; subst hb; exact h.1
    | succ i=>exact k2 i a b (by simpa using ha) (by simpa using hb)
theorem b6.objs {n0:Nat}{tmps:List AV}{objs objs':List Obj} (hl:objs'.length=objs.length) (h:∀ (i:Nat) (x y:Obj),objs[i]?=some x→objs'[i]?=some y→E5 x y):b6 n0 ⟨tmps,objs⟩ ⟨tmps,objs'⟩:=by
  intro _ G0 w0 G a w hn hf
  have hm:=hf.sat.mem
  refine ⟨G,hf.step,⟨by rw [hl]; exact hm.len,fun o y g hy hg=>?_,hm.inj,hm.lt,hm.immLt⟩,hf.sat.tmps,hf.sat.defers⟩
  have ho:o < objs.length:=by rw [← hl]; exact (List.getElem?_eq_some_iff.1 hy).1
  exact Im (h o _ y (List.getElem?_eq_getElem ho) hy) (hm.ok o _ g (List.getElem?_eq_getElem ho) hg)
theorem b6.gen {n0:Nat}{tmps tmps':List AV}{objs objs':List Obj} (h:AV.leL tmps tmps') (ho:leOb objs objs') (hn:n0≤objs'.length) (h1:AV.idsLtL objs'.length tmps'=true) (h2:cG objs'.length objs'=true):b6 n0 ⟨tmps,objs⟩ ⟨tmps',objs'⟩:=by
  obtain ⟨k1,k2⟩:=DG ho
  have hob:b6 n0 ⟨tmps',objs⟩ ⟨tmps',objs' ++ objs.drop objs'.length⟩:=by
    refine b6.objs (by simp; omega) fun i x y hx hy=>?_
    rcases Nat.lt_or_ge i objs'.length with hi | hi
    · rw [List.getElem?_append_left hi] at hy; exact k2 i x y hx hy
    · rw [List.getElem?_append_right hi,List.getElem?_drop,show objs'.length + (i - objs'.length)=i from by omega,hx] at hy
      cases hy
      cases x <;> first | rfl | skip
      rename_i cs
      show leC cs cs
      clear hx
      induction cs with
      | nil=>trivial
      | cons c cs ih=>exact ⟨AV.le_refl _,ih⟩
  exact (b6.le (s:=⟨tmps,objs⟩) h).trans (hob.trans (b6.drop (s:=⟨tmps',_⟩) objs' _ rfl hn h1 h2))
theorem Pe {n0 n:Nat}{o o':List (Nat × AV)}{objs objs':List Obj} (h:leO o o') (ho:leOb objs objs') (hn:n0≤objs'.length) (h1:Jh objs'.length o'=true) (h2:cG objs'.length objs'=true) :
    b6 n0 (st n o objs) (st n o' objs'):=b6.gen (Qh h) ho hn (R7 h1) h2
section
variable {P:Program}{n0 n:Nat}{o:List (Nat × AV)}{objs objs':List Obj}{β:Type}{m:Option β}{Φ:β→Prop}{N:AS→Prop}{Q:AX→AS→Prop}{E:AV→List Obj→Prop}
theorem TB {d sz e:Nat}{o:List (Nat × AV)}{objs:List Obj} (hd:d < n) (h:og o d=.v (.slice none 0 0)):b6 n0 (st n o objs) (st n (oc d (.sl [] (.own objs.length)) o) (objs ++ [.tok 0 sz e true])):=b6.tokO d sz e true hd h
end
/-! ### Calls -/
section
variable {P:Program}{β α:Type}{m:α→Option β}{Φ:β→Prop}{ops rest:List Oper}{K:AS→Prop}{E:AV→List Obj→Prop}{n d g:Nat}{o:List (Nat × AV)}{objs:List Obj}{ty:TypeId}{pos:String}{af:Array Edge}
  {cal:Operand}{args:Array Operand}{at':Array TypeId}{first cap args':List AV}{e:Option α}{X:α→AV}{O:α→List Obj}{enc:α→AV}{ob:α→List Obj}
theorem zO (hc:evo n o cal=.fn g first cap) (hen:aW P g=true) (hf:∀ r,e=some r→Fun P g args' (X r) (O r)) (ha:AV.idsLtL 0 args'=true)
    (hle:AV.leL (AV.stripL (first ++ args.toList.map (evo n o) ++ cap)) args')
    (hx:∀ r,(X r).shift (AV.pubL objs (first ++ args.toList.map (evo n o) ++ cap)).length=enc r)
    (ho:∀ r,AV.pubL objs (first ++ args.toList.map (evo n o) ++ cap) ++ (O r).map (Obj.shift (AV.pubL objs (first ++ args.toList.map (evo n o) ++ cap)).length)=ob r)
    {r:α} (hr:e=some r):Eff P (.call ⟨.value cal,args,at'⟩) n o objs (enc r) (ob r):=by
  refine ⟨?_⟩
  intro p N E hp hN
  unfold aop; rw [hp]; dsimp only
  have ee:(st n o objs).eval=evo n o:=funext fun x=>aX n o objs x
  rw [ee,hc]; dsimp only
  refine Ou hen (hf r hr) ha hle ?_
  rw [hx r,ho r]; exact hN
theorem Rq (hc:evo n o cal=.fn g first cap) (hen:aW P g=true) (hf:∀ r,e=some r→Fun P g args' (X r) (O r)) (ha:AV.idsLtL 0 args'=true)
    (hle:AV.leL (AV.stripL (first ++ args.toList.map (evo n o) ++ cap)) args')
    (hx:∀ r,(X r).shift (AV.pubL objs (first ++ args.toList.map (evo n o) ++ cap)).length=enc r)
    (ho:∀ r,AV.pubL objs (first ++ args.toList.map (evo n o) ++ cap) ++ (O r).map (Obj.shift (AV.pubL objs (first ++ args.toList.map (evo n o) ++ cap)).length)=ob r)
    (h:∀ r,H (m r) Φ (cQ P ops rest (st n (oc d (enc r) o) (ob r)) K E)):H (aI enc ob e m) Φ (cQ P ops (⟨some d,.call ⟨.value cal,args,at'⟩,ty,pos,af,none⟩ :: rest) (st n o objs) K E):=by
  intro y hy hp
  unfold aI at hy
  cases he:e with
  | none=>rw [he] at hy; cases hy
  | some r=>
    rw [he] at hy
    exact S_e (v:=enc r) (objs':=ob r) (zO hc hen hf ha hle hx ho he) (h r) y hy hp
theorem Qc {j:Nat}{want:Bool} (hg:fR ops (st n o objs) j want=some true) (hc:evo n o cal=.fn g first cap) (hen:aW P g=true) (hf:∀ r,e=some r→Fun P g args' (X r) (O r)) (ha:AV.idsLtL 0 args'=true)
    (hle:AV.leL (AV.stripL (first ++ args.toList.map (evo n o) ++ cap)) args')
    (hx:∀ r,(X r).shift (AV.pubL objs (first ++ args.toList.map (evo n o) ++ cap)).length=enc r)
    (ho:∀ r,AV.pubL objs (first ++ args.toList.map (evo n o) ++ cap) ++ (O r).map (Obj.shift (AV.pubL objs (first ++ args.toList.map (evo n o) ++ cap)).length)=ob r)
    (h:∀ r,H (m r) Φ (cQ P ops rest (st n (oc d (enc r) o) (ob r)) K E)):H (aI enc ob e m) Φ (cQ P ops (⟨some d,.call ⟨.value cal,args,at'⟩,ty,pos,af,some (j,want)⟩ :: rest) (st n o objs) K E):=by
  intro y hy hp
  unfold aI at hy
  cases he:e with
  | none=>rw [he] at hy; cases hy
  | some r=>
    rw [he] at hy
    exact Jm (s':=st n (oc d (enc r) o) (ob r)) (j:=j) (want:=want) rfl hg rfl (fun N E hN=>(zO hc hen hf ha hle hx ho he).run _ N E rfl hN) (h r) y hy hp
theorem P7 {ops:Array Oper}{L:List Nat}{o1:List (Nat × AV)} (hL:Oper.looksAt ops ⟨some d,.call ⟨.value cal,args,at'⟩,ty,pos,af,none⟩=L) (h1:lJ L o=o1) (hc:evo n o1 cal=.fn g first cap) (hen:aW P g=true) (hf:∀ r,e=some r→Fun P g args' (X r) (O r)) (ha:AV.idsLtL 0 args'=true)
    (hle:AV.leL (AV.stripL (first ++ args.toList.map (evo n o1) ++ cap)) args')
    (hx:∀ r,(X r).shift (AV.pubL objs (first ++ args.toList.map (evo n o1) ++ cap)).length=enc r)
    (ho:∀ r,AV.pubL objs (first ++ args.toList.map (evo n o1) ++ cap) ++ (O r).map (Obj.shift (AV.pubL objs (first ++ args.toList.map (evo n o1) ++ cap)).length)=objs)
    (h:∀ r,H (m r) Φ (eT P ops rest (st n (oc d (enc r) o) objs) K)):H (aI enc ob e m) Φ (eT P ops (⟨some d,.call ⟨.value cal,args,at'⟩,ty,pos,af,none⟩ :: rest) (st n o objs) K):=by
  intro y hy hp
  unfold aI at hy
  cases he:e with
  | none=>rw [he] at hy; cases hy
  | some r=>
    rw [he] at hy
    exact Ja (s:=st n o objs) (s1:=st n o1 objs) (y:=enc r) rfl hL (by rw [kL,h1]) (fun N E hN=>(zO (ob:=fun _=>objs) hc hen hf ha hle hx ho he).run _ N E rfl hN) (h r) y hy hp
end
structure p0 (P:Program) (op:Op) (n:Nat) (o:List (Nat × AV)) (objs:List Obj) (c:Bool) (v:AV):Prop where
  eq:dI P (st n o objs) op=some (c,v)
structure mJ (P:Program) (op:Op) (n:Nat) (o:List (Nat × AV)) (objs:List Obj):Prop where
  eq:dI P (st n o objs) op=none
/-! ### The other steps, by conditions and orders -/
section
variable {P:Program}{β:Type}{m:Option β}{Φ:β→Prop}{ops rest:List Oper}{K:AS→Prop}{E:AV→List Obj→Prop}{n d:Nat}{o:List (Nat × AV)}{objs objs':List Obj}{op:Op}{ty:TypeId}{pos:String}{af:Array Edge}{v:AV}{j:Nat}{want g c:Bool}
theorem G_v (hg:fR ops (st n o objs) j want=some true) (ht:mJ P op n o objs) (hop:Val P op n o objs v) (h:H m Φ (cQ P ops rest (st n (oc d v o) objs) K E)):H m Φ (cQ P ops (⟨some d,op,ty,pos,af,some (j,want)⟩ :: rest) (st n o objs) K E) :=
  Jm (s':=st n (oc d v o) objs) rfl hg ht.eq (fun N E hN=>hop.run _ N E rfl hN) h
theorem G_e (hg:fR ops (st n o objs) j want=some true) (ht:mJ P op n o objs) (hop:Eff P op n o objs v objs') (h:H m Φ (cQ P ops rest (st n (oc d v o) objs') K E)):H m Φ (cQ P ops (⟨some d,op,ty,pos,af,some (j,want)⟩ :: rest) (st n o objs) K E) :=
  Jm (s':=st n (oc d v o) objs') rfl hg ht.eq (fun N E hN=>hop.run _ N E rfl hN) h
theorem TU (hg:fR ops (st n o objs) j want=some false) (ht:mJ P op n o objs) (h:H m Φ (cQ P ops rest (st n (oc d (.cnd false .any) o) objs) K E)):H m Φ (cQ P ops (⟨some d,op,ty,pos,af,some (j,want)⟩ :: rest) (st n o objs) K E) :=
  Tf (s:=st n o objs) rfl hg ht.eq h
theorem SK (hg:fR ops (st n o objs) j want=some g) (ht:p0 P op n o objs c v) (hi:g=true→c=true) (h:H m Φ (cQ P ops rest (st n (oc d (.cnd g v) o) objs) K E)):H m Φ (cQ P ops (⟨some d,op,ty,pos,af,some (j,want)⟩ :: rest) (st n o objs) K E) :=
  S0 (s:=st n o objs) rfl hg ht.eq hi h
theorem Q_v (hq:isQ op=true) (hop:Val P op n o objs v) (h:H m Φ (fD P ops rest (st n (oc d v o) objs) K)):H m Φ (fD P ops (⟨some d,op,ty,pos,af,none⟩ :: rest) (st n o objs) K) :=
  Si (s':=st n (oc d v o) objs) rfl hq (fun N E hN=>hop.run _ N E rfl hN) h
theorem Uj (hq:isQ op=true) (hg:fR ops (st n o objs) j want=some true) (ht:mJ P op n o objs) (hop:Val P op n o objs v) (h:H m Φ (fD P ops rest (st n (oc d v o) objs) K)):H m Φ (fD P ops (⟨some d,op,ty,pos,af,some (j,want)⟩ :: rest) (st n o objs) K) :=
  SF (s':=st n (oc d v o) objs) rfl hg ht.eq hq (fun N E hN=>hop.run _ N E rfl hN) h
theorem Rh (hq:isQ op=true) (hg:fR ops (st n o objs) j want=some false) (ht:mJ P op n o objs) (h:H m Φ (fD P ops rest (st n (oc d (.cnd false .any) o) objs) K)):H m Φ (fD P ops (⟨some d,op,ty,pos,af,some (j,want)⟩ :: rest) (st n o objs) K) :=
  RD (s:=st n o objs) rfl hg ht.eq hq h
theorem QT (hq:isQ op=true) (hg:fR ops (st n o objs) j want=some g) (ht:p0 P op n o objs c v) (hi:g=true→c=true) (h:H m Φ (fD P ops rest (st n (oc d (.cnd g v) o) objs) K)):H m Φ (fD P ops (⟨some d,op,ty,pos,af,some (j,want)⟩ :: rest) (st n o objs) K) :=
  Q3 (s:=st n o objs) rfl hg ht.eq hq hi h
theorem C_v {ops:Array Oper}{L:List Nat}{o1:List (Nat × AV)} (hL:Oper.looksAt ops ⟨some d,op,ty,pos,af,none⟩=L) (h1:lJ L o=o1) (hop:Val P op n o1 objs v) (h:H m Φ (eT P ops rest (st n (oc d v o) objs) K)):H m Φ (eT P ops (⟨some d,op,ty,pos,af,none⟩ :: rest) (st n o objs) K) :=
  Ja (s:=st n o objs) (s1:=st n o1 objs) rfl hL (by rw [kL,h1]) (fun N E hN=>hop.run _ N E rfl hN) h
end
section
variable {P:Program}{β:Type}{m:Option β}{Φ:β→Prop}{ops:Array Oper}{rest:List Oper}{K:AS→Prop}{n d:Nat}{o o1:List (Nat × AV)}{objs:List Obj}{op:Op}{ty:TypeId}{pos:String}{af:Array Edge}{v:AV}{j:Nat}{want g c:Bool}{L:List Nat}
theorem Uo (hL:Oper.looksAt ops ⟨some d,op,ty,pos,af,some (j,want)⟩=L) (h1:lJ L o=o1) (hg:fR ops.toList (st n o1 objs) j want=some true) (hop:Val P op n o1 objs v) (h:H m Φ (eT P ops rest (st n (oc d (.cnd true v) o) objs) K)):H m Φ (eT P ops (⟨some d,op,ty,pos,af,some (j,want)⟩ :: rest) (st n o objs) K) :=
  yJ (s:=st n o objs) (s1:=st n o1 objs) rfl hL (by rw [kL,h1]) hg (.inl fun _ N E hN=>hop.run _ N E rfl hN) h
theorem Q8 (hL:Oper.looksAt ops ⟨some d,op,ty,pos,af,some (j,want)⟩=L) (h1:lJ L o=o1) (hg:fR ops.toList (st n o1 objs) j want=some false) (h:H m Φ (eT P ops rest (st n (oc d (.cnd false .any) o) objs) K)):H m Φ (eT P ops (⟨some d,op,ty,pos,af,some (j,want)⟩ :: rest) (st n o objs) K) :=
  yJ (s:=st n o objs) (s1:=st n o1 objs) rfl hL (by rw [kL,h1]) hg (.inl fun h=>by cases h) h
theorem Sh (hL:Oper.looksAt ops ⟨some d,op,ty,pos,af,some (j,want)⟩=L) (h1:lJ L o=o1) (hg:fR ops.toList (st n o1 objs) j want=some g) (ht:p0 P op n o1 objs c v) (hi:g=true→c=true) (h:H m Φ (eT P ops rest (st n (oc d (.cnd g v) o) objs) K)):H m Φ (eT P ops (⟨some d,op,ty,pos,af,some (j,want)⟩ :: rest) (st n o objs) K) :=
  yJ (s:=st n o objs) (s1:=st n o1 objs) rfl hL (by rw [kL,h1]) hg (.inr ⟨c,ht.eq,hi⟩) h
theorem Qz {α:Type}{m:α→Option β}{gf:Nat}{cal:Operand}{args:Array Operand}{at':Array TypeId}{first cap args':List AV}{e:Option α}{X:α→AV}{O:α→List Obj}{enc:α→AV}{ob:α→List Obj}
    (hL:Oper.looksAt ops ⟨some d,.call ⟨.value cal,args,at'⟩,ty,pos,af,some (j,want)⟩=L) (h1:lJ L o=o1) (hg:fR ops.toList (st n o1 objs) j want=some true) (hc:evo n o1 cal=.fn gf first cap) (hen:aW P gf=true) (hf:∀ r,e=some r→Fun P gf args' (X r) (O r)) (ha:AV.idsLtL 0 args'=true)
    (hle:AV.leL (AV.stripL (first ++ args.toList.map (evo n o1) ++ cap)) args')
    (hx:∀ r,(X r).shift (AV.pubL objs (first ++ args.toList.map (evo n o1) ++ cap)).length=enc r)
    (ho:∀ r,AV.pubL objs (first ++ args.toList.map (evo n o1) ++ cap) ++ (O r).map (Obj.shift (AV.pubL objs (first ++ args.toList.map (evo n o1) ++ cap)).length)=objs)
    (h:∀ r,H (m r) Φ (eT P ops rest (st n (oc d (.cnd true (enc r)) o) objs) K)):H (aI enc ob e m) Φ (eT P ops (⟨some d,.call ⟨.value cal,args,at'⟩,ty,pos,af,some (j,want)⟩ :: rest) (st n o objs) K):=by
  intro y hy hp
  unfold aI at hy
  cases he:e with
  | none=>rw [he] at hy; cases hy
  | some r=>
    rw [he] at hy
    exact yJ (s:=st n o objs) (s1:=st n o1 objs) (v:=enc r) rfl hL (by rw [kL,h1]) hg (.inl fun _ N E hN=>(zO (ob:=fun _=>objs) hc hen hf ha hle hx ho he).run _ N E rfl hN) (h r) y hy hp
end
/-! ### Conditions -/
def nE (n:Nat) (o:List (Nat × AV)) (want:Bool):Option Nat→Option Bool
  | some d=>(match (if d < n then og o d else .any).boolUn with | some (g,b)=>some (g && (b == want)) | none=>none)
  | none=>none
theorem gG {ops:List Oper}{n:Nat}{o:List (Nat × AV)}{objs:List Obj}{j:Nat}{want g:Bool}{d:Option Nat} (hd:sW ops j=d) (h:nE n o want d=some g):fR ops (st n o objs) j want=some g:=by
  rw [Kb,hd]
  cases d with
  | none=>exact h
  | some d=>rw [Ih]; exact h
theorem NQ {n d:Nat}{o:List (Nat × AV)}{b:Bool} (h:(if d < n then og o d else .any).boolUn=some (true,b)):nE n o true (some d)=some b:=by
  unfold nE; simp only [h]; cases b <;> rfl
theorem EG {n d:Nat}{o:List (Nat × AV)}{b:Bool} (h:(if d < n then og o d else .any).boolUn=some (true,b)):nE n o false (some d)=some (!b):=by
  unfold nE; simp only [h]; cases b <;> rfl
theorem Lm {n d:Nat}{o:List (Nat × AV)} (h:(if d < n then og o d else .any).boolUn=some (true,false)):nE n o false (some d)=some true:=EG h
theorem LI {n d:Nat}{o:List (Nat × AV)} (h:(if d < n then og o d else .any).boolUn=some (true,true)):nE n o false (some d)=some false:=EG h
theorem MZ {n d:Nat}{o:List (Nat × AV)}{want b:Bool} (h:(if d < n then og o d else .any).boolUn=some (false,b)):nE n o want (some d)=some false:=by
  unfold nE; simp only [h]; rfl
theorem F5 {n d:Nat}{o:List (Nat × AV)}{g b:Bool} (h:(if d < n then og o d else .any).boolUn=some (g,b)):nE n o true (some d)=some (g && b):=by
  unfold nE; simp only [h]; cases b <;> rfl
theorem GO {n d:Nat}{o:List (Nat × AV)}{g b:Bool} (h:(if d < n then og o d else .any).boolUn=some (g,b)):nE n o false (some d)=some (g && !b):=by
  unfold nE; simp only [h]; cases b <;> rfl
/-! ### Answers -/
def pK {β:Type} (X:β→AV) (O:β→List Obj) (r:β):kC→List Obj→Prop:=fun ae o=>ae=.ret (X r)∧o=O r
def z6 (n:Nat) (o:List (Nat × AV)):List ResultVar→Option (List AV)
  | []=>some []
  | .tmp t :: rs=>(match z6 n o rs with | some xs=>some ((if t < n then og o t else .any) :: xs) | none=>none)
  | .cell _ _ :: _=>none
theorem oC {P:Program}{n:Nat}{o:List (Nat × AV)}{objs:List Obj}:∀ {rs:List ResultVar}{xs:List AV},z6 n o rs=some xs→sH P (st n o objs) rs=some xs
  | [],xs,h=>h
  | .tmp t :: rs,xs,h=>by
    simp only [z6] at h
    cases hr:z6 n o rs with
    | none=>rw [hr] at h; cases h
    | some ys=>
      rw [hr] at h
      simp only [sH,I9,oC hr]
      rw [show ((st n o objs).tmps.getD t .any)=if t < n then og o t else .any from sF n o t]
      exact h
  | .cell _ _ :: _,_,h=>by cases h
section
variable {P:Program}{β:Type}{r v:β}{n:Nat}{o:List (Nat × AV)}{objs:List Obj}{rs:List ResultVar}{X:β→AV}{O:β→List Obj}
theorem RR {x0:AV} (hr:z6 n o rs=some [x0]) (hx:x0.le (X v)) (ho:leOb objs (O v)) (h1:(X v).idsLt (O v).length=true) (h2:cG (O v).length (O v)=true) :
    H (aH v) (fun y=>y=r) (pG P 0 rs (pK X O r) .ret (st n o objs)):=by
  refine Ab ?_
  rintro rfl
  exact ⟨x0,by unfold qZ; rw [oC hr]; rfl,X v,O v,b6.gen (tmps:=[x0]) (tmps':=[X v]) ⟨hx,trivial⟩ ho (Nat.zero_le _) (by simp [AV.idsLtL,h1]) h2,rfl,rfl⟩
theorem Qu {x0:AV} (hr:z6 n o rs=some [x0]) (hx:x0.strip.le (X v)) (h1:(X v).idsLt 0=true) (hO:O v=[]) :
    H (aH v) (fun y=>y=r) (pG P 0 rs (pK X O r) .ret (st n o objs)):=by
  refine Ab ?_
  rintro rfl
  refine ⟨x0,by unfold qZ; rw [oC hr]; rfl,X v,O v,?_,rfl,rfl⟩
  rw [hO]
  intro _ G0 w0 G a w hn hf
  obtain ⟨G',k1,k2,k3⟩:=k9 [x0] G objs hf.sat.mem
  have hf':d7 G0 w0 G' ⟨AV.stripL [x0],AV.pubL objs [x0]⟩ a w:=⟨hf.step.trans k1,k2,k3 _ hf.sat.tmps,hf.sat.defers⟩
  exact b6.gen (n0:=0) (tmps:=AV.stripL [x0]) (tmps':=[X v]) (objs':=[]) ⟨hx,trivial⟩ (AG _) (Nat.zero_le _) (by simp [AV.idsLtL,h1]) rfl _ G0 w0 G' a w hn hf'
theorem QO {x0 x1:AV}{xs ys:List AV} (hr:z6 n o rs=some (x0 :: x1 :: xs)) (hX:X v=.tup ys) (hx:AV.leL (x0 :: x1 :: xs) ys) (ho:leOb objs (O v)) (h1:AV.idsLtL (O v).length ys=true) (h2:cG (O v).length (O v)=true) :
    H (aH v) (fun y=>y=r) (pG P 0 rs (pK X O r) .ret (st n o objs)):=by
  refine Ab ?_
  rintro rfl
  refine ⟨.tup (x0 :: x1 :: xs),by unfold qZ; rw [oC hr]; rfl,X v,O v,?_,rfl,rfl⟩
  rw [hX]
  exact (b6.tup hx).trans (b6.gen (tmps:=[.tup ys]) (tmps':=[.tup ys]) ⟨AV.le_refl _,trivial⟩ ho (Nat.zero_le _) (by simp [AV.idsLtL,AV.idsLt,h1]) h2)
theorem Qj {x0 x1:AV}{xs ys:List AV} (hr:z6 n o rs=some (x0 :: x1 :: xs)) (hX:X v=.tup ys) (hx:AV.leL (AV.stripL (x0 :: x1 :: xs)) ys) (h1:AV.idsLtL 0 ys=true) (hO:O v=[]) :
    H (aH v) (fun y=>y=r) (pG P 0 rs (pK X O r) .ret (st n o objs)):=by
  refine Ab ?_
  rintro rfl
  refine ⟨.tup (x0 :: x1 :: xs),by unfold qZ; rw [oC hr]; rfl,X v,O v,?_,rfl,rfl⟩
  rw [hO,hX]
  intro _ G0 w0 G a w hn hf
  obtain ⟨G',k1,k2,k3⟩:=k9 (x0 :: x1 :: xs) G objs hf.sat.mem
  have hv:=hf.sat.tmps
  have hlen:a.tmps.toList.length=1:=hv.1
  match hal:a.tmps.toList,hlen with
  | [u],_=>
    rw [hal] at hv
    have h0:=hv.2 0 _ u rfl rfl
    cases h0 with
    | tup _ vs hl hc=>
      obtain ⟨q1,q2⟩:=AV.leL_sound hx (k3 vs ⟨hl,hc⟩)
      have hf':d7 G0 w0 G' ⟨[.tup ys],AV.pubL objs (x0 :: x1 :: xs)⟩ a w:=by
        refine ⟨hf.step.trans k1,k2,?_,hf.sat.defers⟩
        rw [hal]
        refine ⟨rfl,fun i x v hx hv=>?_⟩
        cases i with
        | zero=>simp at hx hv; subst hx; subst hv; exact .tup _ vs q1 q2
        | succ i=>simp at hx
      exact b6.gen (n0:=0) (tmps:=[.tup ys]) (tmps':=[.tup ys]) (objs':=[]) ⟨AV.le_refl _,trivial⟩ (AG _) (Nat.zero_le _) (by simp [AV.idsLtL,AV.idsLt,h1]) rfl _ G0 w0 G' a w hn hf'
theorem Fun.of_model {f:Nat}{fn:Func}{c:Code}{args:List AV}{m:Option β} (hf:P.funcs[f]?=some fn) (hb:fn.body=some c) (hl:args.length≤fn.ntmps) (hm:m=some r)
    (h:H m (fun y=>y=r) (awp P 0 c (st fn.ntmps (bA 0 args) []) (pG P 0 fn.results.toList (pK X O r)) (fun _ _=>False))):Fun P f args (X r) (O r) :=
  Fun.of_awpO hf hb hl (h r hm rfl)
end
end Go.Proofs.YtgkmbhllcekagaaGreatDoor.AM
/- Further rules for models: totals, conditions, wholes. -/
namespace Go.Proofs.YtgkmbhllcekagaaGreatDoor.AM
open Go
section
variable {P:Program}{n:Nat}{o:List (Nat × AV)}{objs objs':List Obj}{x y z:Operand}{t t':TypeId}
/-! ### Operations that have no condition -/
theorem dN (x:Operand):(st n o objs).raw x=cX n o x:=wA n o objs x
theorem Ud {g:Bool}{v:AV} (hx:(cX n o x).split=(g,v)):dI P (st n o objs) (.move x)=some (g,v):=by
  unfold dI; dsimp only; rw [dN,hx]
theorem Ta {op:BinOp}{q:IntKind}{a b:Int}{g h:Bool}{r:Value} (hx:(cX n o x).split=(g,.v (.int q a))) (hy:(cX n o y).split=(h,.v (.int q b))) (hr:vW op q a b=some r):dI P (st n o objs) (.binOp op t x y t')=some (g && h,.v r):=by
  unfold dI; dsimp only; rw [dN,dN,hx,hy]; dsimp only; rw [if_pos rfl,hr]; rfl
theorem MG {op:BinOp}{a b:ByteArray}{g h:Bool}{r:Value} (hx:(cX n o x).split=(g,.v (.string a))) (hy:(cX n o y).split=(h,.v (.string b))) (hr:yA op a b=some r):dI P (st n o objs) (.binOp op t x y t')=some (g && h,.v r):=by
  unfold dI; dsimp only; rw [dN,dN,hx,hy]; dsimp only; rw [hr]; rfl
theorem Sl {a b:Str}{g h:Bool} (hx:(cX n o x).split=(g,.v (.string (bs a)))) (hy:(cX n o y).split=(h,.v (.string (bs b)))):dI P (st n o objs) (.binOp .eql t x y t')=some (g && h,.v (.bool (decide (a=b)))):=by
  rw [← vM]; exact MG hx hy rfl
theorem Rv {a b:Str}{g h:Bool} (hx:(cX n o x).split=(g,.v (.string (bs a)))) (hy:(cX n o y).split=(h,.v (.string (bs b)))):dI P (st n o objs) (.binOp .neq t x y t')=some (g && h,.v (.bool (!decide (a=b)))):=by
  rw [← vM]; exact MG hx hy rfl
theorem T6 {g b:Bool} (hx:(cX n o x).split=(g,.v (.bool b))):dI P (st n o objs) (.unOp .not t x)=some (g,.v (.bool (!b))):=by
  unfold dI; dsimp only; rw [dN,hx]
theorem Rp {g b h p i q:Bool} (hc:(cX n o x).split=(g,.v (.bool b))) (hx:(cX n o y).boolUn=some (h,p)) (hy:(cX n o z).boolUn=some (i,q)):dI P (st n o objs) (.pick x y z)=some (g && (bif b then h else i),.v (.bool (bif b then p else q))):=by
  unfold dI; dsimp only; rw [dN,dN,dN,hc,hx,hy]
theorem MK {g h:Bool}{u v:AV} (hx:(cX n o x).split=(g,u)) (hl:AD P t (g,u)=some (h,v)):dI P (st n o objs) (.call ⟨.builtin .len,#[x],#[t]⟩)=some (h,v):=by
  unfold dI; dsimp only; rw [dN,hx]; exact hl
theorem Sg {g:Bool}{i:TI}{a:Str} (ht:ti P t=some i) (hd:i.desc=.string) (hx:(cX n o x).split=(g,.v (.string (bs a)))):dI P (st n o objs) (.call ⟨.builtin .len,#[x],#[t]⟩)=some (g,.v (.int .i64 (a.length:Int))) :=
  MK hx (by unfold AD; rw [ht]; dsimp only; rw [hd]; rfl)
theorem Ro {α:Type}{c:α→List D}{l:List α}{g:Bool}{i:TI}{e:TypeId}{tg:Tk} (ht:ti P t=some i) (hd:i.desc=.slice e) (hx:(cX n o x).split=(g,.sl (l.map c) tg)):dI P (st n o objs) (.call ⟨.builtin .len,#[x],#[t]⟩)=some (g,.v (.int .i64 (l.length:Int))) :=
  MK hx (by unfold AD; rw [ht]; dsimp only; rw [hd]; simp)
theorem Ra {g:Bool}{i:TI}{e:TypeId} (ht:ti P t=some i) (hd:i.desc=.slice e) (hx:(cX n o x).split=(g,.v (.slice none 0 0))):dI P (st n o objs) (.call ⟨.builtin .len,#[x],#[t]⟩)=some (g,.v (.int .i64 0)) :=
  MK hx (by unfold AD; rw [ht]; dsimp only; rw [hd]; rfl)
def ntO:Op→Bool
  | .load _ _=>true
  | .store _ _ _=>true
  | .field _ _ _=>true
  | .fieldAddr _ _ _=>true
  | .index _ _ _=>true
  | .indexAddr _ _ _=>true
  | .lookup _ _ _ _=>true
  | .extract _ _=>true
  | .build _ _=>true
  | .buildSlice _ _ _=>true
  | .slice _ _ _ _ _=>true
  | .convert _ _ _=>true
  | .makeFunc _ _ _=>true
  | .alloc _=>true
  | .box _ _=>true
  | .nilCheck _=>true
  | .mapUpdate _ _ _ _=>true
  | .call ⟨.value _,_,_⟩=>true
  | .call ⟨.builtin .append,_,_⟩=>true
  | .call ⟨.builtin .min,_,_⟩=>true
  | .call ⟨.builtin .max,_,_⟩=>true
  | _=>false
theorem Tu {op:Op} (h:ntO op=true):dI P (st n o objs) op=none:=by
  unfold ntO at h
  split at h <;> first | rfl | cases h
def ntB:BinOp→Bool
  | .add | .sub | .eql | .neq | .lss | .leq | .gtr | .geq=>false
  | _=>true
theorem Nl {op:BinOp} (h:ntB op=true):dI P (st n o objs) (.binOp op t x y t')=none:=by
  unfold dI; dsimp only
  cases op <;> first | (cases h; done) | skip
  all_goals (split <;> (try split) <;> simp [vW,yA])
theorem Ql {g:Bool}{a:ByteArray} (hx:(cX n o x).split=(g,.v (.string a))):dI P (st n o objs) (.binOp .add t x y t')=none:=by
  unfold dI; dsimp only; rw [dN,dN,hx]
  split
  · rename_i h _; cases h
  · simp [yA]
  all_goals rfl
theorem Qd {op:BinOp}{g a:Bool} (hx:(cX n o x).split=(g,.v (.bool a))):dI P (st n o objs) (.binOp op t x y t')=none:=by
  unfold dI; dsimp only; rw [dN,dN,hx]
  all_goals first | rfl | (rename_i h _; cases h)
theorem P0 {op:BinOp}{g:Bool}{l:List AV} (hx:(cX n o x).split=(g,.agg l)):dI P (st n o objs) (.binOp op t x y t')=none:=by
  unfold dI; dsimp only; rw [dN,dN,hx]
theorem xV {g:Bool}{v:AV} (hx:(cX n o x).split=(g,v)):p0 P (.move x) n o objs (g) (v):=⟨Ud hx⟩
theorem SJ {op:BinOp}{q:IntKind}{a b:Int}{g h:Bool}{r:Value} (hx:(cX n o x).split=(g,.v (.int q a))) (hy:(cX n o y).split=(h,.v (.int q b))) (hr:vW op q a b=some r):p0 P (.binOp op t x y t') n o objs (g && h) (.v r):=⟨Ta hx hy hr⟩
theorem Tc {op:BinOp}{a b:ByteArray}{g h:Bool}{r:Value} (hx:(cX n o x).split=(g,.v (.string a))) (hy:(cX n o y).split=(h,.v (.string b))) (hr:yA op a b=some r):p0 P (.binOp op t x y t') n o objs (g && h) (.v r):=⟨MG hx hy hr⟩
theorem RM {a b:Str}{g h:Bool} (hx:(cX n o x).split=(g,.v (.string (bs a)))) (hy:(cX n o y).split=(h,.v (.string (bs b)))):p0 P (.binOp .eql t x y t') n o objs (g && h) (.v (.bool (decide (a=b)))):=⟨Sl hx hy⟩
theorem Rf {a b:Str}{g h:Bool} (hx:(cX n o x).split=(g,.v (.string (bs a)))) (hy:(cX n o y).split=(h,.v (.string (bs b)))):p0 P (.binOp .neq t x y t') n o objs (g && h) (.v (.bool (!decide (a=b)))):=⟨Rv hx hy⟩
theorem TC {g b:Bool} (hx:(cX n o x).split=(g,.v (.bool b))):p0 P (.unOp .not t x) n o objs (g) (.v (.bool (!b))):=⟨T6 hx⟩
theorem Sk {g b h p i q:Bool} (hc:(cX n o x).split=(g,.v (.bool b))) (hx:(cX n o y).boolUn=some (h,p)) (hy:(cX n o z).boolUn=some (i,q)):p0 P (.pick x y z) n o objs (g && (bif b then h else i)) (.v (.bool (bif b then p else q))):=⟨Rp hc hx hy⟩
theorem QU {g:Bool}{i:TI}{a:Str} (ht:ti P t=some i) (hd:i.desc=.string) (hx:(cX n o x).split=(g,.v (.string (bs a)))):p0 P (.call ⟨.builtin .len,#[x],#[t]⟩) n o objs (g) (.v (.int .i64 (a.length:Int))):=⟨Sg ht hd hx⟩
theorem Sc {α:Type}{c:α→List D}{l:List α}{g:Bool}{i:TI}{e:TypeId}{tg:Tk} (ht:ti P t=some i) (hd:i.desc=.slice e) (hx:(cX n o x).split=(g,.sl (l.map c) tg)):p0 P (.call ⟨.builtin .len,#[x],#[t]⟩) n o objs (g) (.v (.int .i64 (l.length:Int))):=⟨Ro ht hd hx⟩
theorem QZ {g:Bool}{i:TI}{e:TypeId} (ht:ti P t=some i) (hd:i.desc=.slice e) (hx:(cX n o x).split=(g,.v (.slice none 0 0))):p0 P (.call ⟨.builtin .len,#[x],#[t]⟩) n o objs (g) (.v (.int .i64 0)):=⟨Ra ht hd hx⟩
theorem dG {op:Op} (h:ntO op=true):mJ P op n o objs:=⟨Tu h⟩
theorem bN {op:BinOp} (h:ntB op=true):mJ P (.binOp op t x y t') n o objs:=⟨Nl h⟩
theorem cC {g:Bool}{a:ByteArray} (hx:(cX n o x).split=(g,.v (.string a))):mJ P (.binOp .add t x y t') n o objs:=⟨Ql hx⟩
theorem cD {op:BinOp}{g a:Bool} (hx:(cX n o x).split=(g,.v (.bool a))):mJ P (.binOp op t x y t') n o objs:=⟨Qd hx⟩
theorem cE {op:BinOp}{g:Bool}{l:List AV} (hx:(cX n o x).split=(g,.agg l)):mJ P (.binOp op t x y t') n o objs:=⟨P0 hx⟩
theorem bJ {g:Bool} (hx:(cX n o x).split=(g,.any)):mJ P (.call ⟨.builtin .len,#[x],#[t]⟩) n o objs:=by
  refine ⟨?_⟩; unfold dI; dsimp only; rw [dN,hx]; unfold AD
  split
  · split <;> first | rfl | (rename_i h; cases h)
  · rfl
theorem bV {op:BinOp}{g:Bool} (hx:(cX n o x).split=(g,.any)):mJ P (.binOp op t x y t') n o objs:=by
  refine ⟨?_⟩; unfold dI; dsimp only; rw [dN,dN,hx]
theorem bP {op:BinOp}{g:Bool} (hy:(cX n o y).split=(g,.any)):mJ P (.binOp op t x y t') n o objs:=by
  refine ⟨?_⟩; unfold dI; dsimp only; rw [dN,dN,hy]
  split <;> first | rfl | (rename_i h _; cases h) | (rename_i h; cases h) | skip
theorem bT {u:UnOp}{g:Bool} (hx:(cX n o x).split=(g,.any)):mJ P (.unOp u t x) n o objs:=by
  refine ⟨?_⟩; unfold dI; cases u <;> first | rfl | (dsimp only; rw [dN,hx])
theorem bU:mJ P (.unOp .neg t x) n o objs:=⟨rfl⟩
theorem bS:mJ P (.unOp .xor t x) n o objs:=⟨rfl⟩
theorem bO {g:Bool} (hx:(cX n o x).split=(g,.any)):mJ P (.pick x y z) n o objs:=by
  refine ⟨?_⟩; unfold dI; dsimp only; rw [dN,dN,dN,hx]
section
variable {α:Type}{c:α→List D}{i j:TI}{e:TypeId}{lo hi:Option Operand}{s:List α}{l h:Int} (ht:ti P t=some i) (hd:i.desc=.slice e) (hj:ti P e=some j) (hz:∀ r,(c r).length=j.size)
include ht hd hj hz
theorem T3 (hx:evo n o x=.sl (s.map c) .none) (hl:cT (lo.map (evo n o)) 0=some l) (hh:cT (hi.map (evo n o)) (s.length:Int)=some h) (hb:0≤l∧l≤h∧h≤(s.length:Int)):Val P (.slice t x lo hi none) n o objs (.sl (((s.take h.toNat).drop l.toNat).map c) .none):=MM ht hd hj hz hx hl hh hb
theorem TT (hx:evo n o x=.sl (s.map c) .exact) (hl:cT (lo.map (evo n o)) 0=some l) (hh:cT (hi.map (evo n o)) (s.length:Int)=some h) (hb:0≤l∧l≤h∧h≤(s.length:Int)):Val P (.slice t x lo hi none) n o objs (.sl (((s.take h.toNat).drop l.toNat).map c) .none):=MM ht hd hj hz hx hl hh hb
theorem TN {k:Nat} (hx:evo n o x=.sl (s.map c) (.own k)) (hl:cT (lo.map (evo n o)) 0=some l) (hh:cT (hi.map (evo n o)) (s.length:Int)=some h) (hb:0≤l∧l≤h∧h≤(s.length:Int)):Val P (.slice t x lo hi none) n o objs (.sl (((s.take h.toNat).drop l.toNat).map c) (.own k)):=MM ht hd hj hz hx hl hh hb
end
theorem Sq {α:Type}{c:α→List D}{l:List α}{i:TI}{k:Nat}{tg:Tk}{r:α} (ht:ti P t=some i) (ha:i.isAgg=true) (hx:evo n o x=.ep (l.map c) k 0 tg) (hr:l[k]?=some r) (hz:(c r).length=i.size):Val P (.load t x) n o objs (ag c r) :=
  M6 ht ha hx hr (by rw [Nat.zero_add,hz]; exact Nat.ble_eq_true_of_le (Nat.le_refl _)) (by rw [List.drop_zero,← hz,List.take_length])
theorem IE {e:TypeId}{i:TI}{k:Nat}{cells:List AV} (ht:ti P e=some i) (hk:objs.length=k) (hz:i.zero.map .v=cells) (ho:objs ++ [.box cells]=objs'):Eff P (.alloc e) n o objs (.ptr k 0) objs':=by
  subst ho; exact Qr ht hk hz
theorem Oi {e:TypeId}{i:TI}{k:Nat}{cs:List AV} (ht:ti P e=some i) (hk:objs.length=k) (hx:hU (evo n o x)=some cs) (ho:objs ++ [.box cs]=objs'):Eff P (.box e x) n o objs (.ptr k 0) objs':=by
  subst ho; exact SL ht hk hx
theorem D0 {i:TI}{k off:Nat}{cells xs cs':List AV} (ht:ti P t=some i) (hx:evo n o x=.ptr k off) (hy:hU (evo n o y)=some xs) (ho:objs[k]?=some (.box cells)) (hs:xs.length=i.size) (hl:Nat.ble (off + xs.length) cells.length=true) (hf:setFrom cells off xs=cs') (ho':objs.set k (.box cs')=objs'):Eff P (.store t x y) n o objs .any objs':=by
  subst ho'; exact Lu ht hx hy ho hs hl hf
theorem RB {k:Nat} (hk:objs.length=k) (ho:objs ++ [.map []]=objs'):Eff P (.makeMap t none) n o objs (.map k) objs':=by
  subst ho; exact T5 hk
section
variable {α:Type}{c:α→List D}{i j:TI}{e:TypeId}{l l2:List α}{tg:Tk} (ht:ti P t=some i) (hd:i.desc=.slice e) (hj:ti P e=some j) (h0:0 < j.size∧0 < j.bytes) (hz:∀ r,(c r).length=j.size)
include ht hd hj h0 hz
theorem PO {k:Nat} (hx:evo n o x=.v (.slice none 0 0)) (hy:evo n o y=.sl (l2.map c) tg) (hb:l2.length * j.bytes≤140737488355328) (hk:objs.length=k) (ho:objs ++ [.tok l2.length j.size e true]=objs') :
    Eff P (.call ⟨.builtin .append,#[x,y],#[t,t]⟩) n o objs (.sl (l2.map c) (.own k)) objs':=by
  subst ho; subst hk; exact QY ht hd hj h0 hz hx hy hb
theorem QH {k:Nat} (hx:evo n o x=.sl (l.map c) .exact) (hy:evo n o y=.sl (l2.map c) tg) (hpos:0 < l.length + l2.length) (hb:(l.length + l2.length) * j.bytes≤140737488355328) (hk:objs.length=k) (ho:objs ++ [.tok (l ++ l2).length j.size e l.isEmpty]=objs') :
    Eff P (.call ⟨.builtin .append,#[x,y],#[t,t]⟩) n o objs (.sl ((l ++ l2).map c) (.own k)) objs':=by
  subst ho; subst hk; exact Rm ht hd hj h0 hz hx hy hpos hb
theorem PU {k:Nat}{ex:Bool}{len:Nat} (hx:evo n o x=.sl (l.map c) (.own k)) (hy:evo n o y=.sl (l2.map c) tg) (ho:objs[k]?=some (.tok len j.size e ex)) (hln:len=l.length) (hb:(l.length + l2.length) * j.bytes≤140737488355328) (ho':objs.set k (.tok (l ++ l2).length j.size e ex)=objs') :
    Eff P (.call ⟨.builtin .append,#[x,y],#[t,t]⟩) n o objs (.sl ((l ++ l2).map c) (.own k)) objs':=by
  subst ho'; exact Q6 ht hd hj h0 hz hx hy ho hln hb
end
theorem Ls {i j:TI}{e:TypeId} (ht:ti P t=some i) (hd:i.desc=.slice e) (hj:ti P e=some j) (h0:0 < j.size∧0 < j.bytes) {α:Type}{c:α→List D}{l:List α}{k:Nat}{ex:Bool}{len:Nat} (hz:∀ r,(c r).length=j.size) (hx:evo n o x=.sl (l.map c) (.own k)) (hy:evo n o y=.v (.slice none 0 0)) (ho:objs[k]?=some (.tok len j.size e ex)) (hln:len=l.length) (hb:(l.length + 0) * j.bytes≤140737488355328) (ho':objs.set k (.tok l.length j.size e ex)=objs') :
    Eff P (.call ⟨.builtin .append,#[x,y],#[t,t]⟩) n o objs (.sl (l.map c) (.own k)) objs':=by
  subst ho'
  refine ⟨?_⟩; intro p N E hp hN; unfold aop; rw [hp]; dsimp only [List.map,Array.toList]; rw [aX,aX,hx,hy]
  obtain ⟨_,k3⟩:=sJ (l2:=l) (tg:=.own k) (y:=x) ht hd hj h0 hz hx
  unfold dC; dsimp only; unfold jU; rw [ht]; dsimp only; rw [hd]; dsimp only; rw [hj]; dsimp only
  rw [show mR P t t e (.v (.slice none 0 0))=some [] by simp [mR]]; dsimp only; rw [ho]
  refine ⟨h0.1,h0.2,by simp,by rw [List.length_map]; exact hln,rfl,rfl,k3,by rw [List.length_map]; exact hb,?_⟩
  rw [List.length_map,List.append_nil]; exact hN
end
section
variable {P:Program}{n0 n k:Nat}{I:Nat→AS→Prop}{Q:AX→AS→Prop}{E:AV→List Obj→Prop}{β:Type}{m m1 m2:Option β}{Φ:β→Prop}{o:List (Nat × AV)}{objs:List Obj}{s:AS}
theorem P4 {σ:Type}{ph:σ→List (Nat × AV)}{ob:σ→List Obj}{Ψ:σ→Prop}{x':σ}
    (hN:∀ x',Ψ x'→∀ s',b6 n0 s' ⟨ov n (ph x'),ob x'⟩→pO n0 I k Q .normal s') (hw:b6 n0 s ⟨ov n (ph x'),ob x'⟩):H (aU x':Option (σ ⊕ β)) (Sum.elim Ψ Φ) (pO n0 I k Q .normal s):=Nx (N:=pO n0 I k Q .normal) hN hw
theorem P6 {σ:Type}{ph:σ→List (Nat × AV)}{ob:σ→List Obj}{Ψ:σ→Prop}{N:AS→Prop}{x':σ}
    (hN:∀ x',Ψ x'→∀ s',b6 n0 s' ⟨ov n (ph x'),ob x'⟩→rQ n0 N Q .normal s') (hw:b6 n0 s ⟨ov n (ph x'),ob x'⟩):H (aU x':Option (σ ⊕ β)) (Sum.elim Ψ Φ) (rQ n0 N Q .normal s):=Nx (N:=rQ n0 N Q .normal) hN hw
theorem Ue {c:Operand}{t e:Code} (hc:evo n o c=.v (.bool true)) (h:H m Φ (awp P n0 t (st n o objs) Q E)):H m Φ (awp P n0 (.cond c t e) (st n o objs) Q E):=Qw (by rw [aX]; exact hc) h
theorem Ug {c:Operand}{t e:Code} (hc:evo n o c=.v (.bool false)) (h:H m Φ (awp P n0 e (st n o objs) Q E)):H m Φ (awp P n0 (.cond c t e) (st n o objs) Q E):=PM (by rw [aX]; exact hc) h
theorem S3 {i:Nat} (h:H m Φ (Q (.exit i) s)):H m Φ (pO n0 I k Q (.exit i) s):=h
theorem Sw (h:H m Φ (Q .ret s)):H m Φ (pO n0 I k Q .ret s):=h
def fS {β:Type} (m:Option β):Option β:=m
theorem RI {id:Nat}{l:List Oper} (e1:P.follows .mixedOrders=true) (e2:Region.lexB .any l.toArray=true) (h:H m Φ (eT P l.toArray l s (Q .normal))):H (fS m) Φ (awp P n0 (.region id l.toArray true) s Q E):=Om e1 e2 h
theorem RV {d sz e kk:Nat}{c:Code}{objs':List Obj} (hd:d < n) (h:og o d=.v (.slice none 0 0)) (hk:objs.length=kk) (ho:objs ++ [.tok 0 sz e true]=objs') (hr:H m Φ (awp P n0 (.loop c) (st n (oc d (.sl [] (.own kk)) o) objs') Q E)):H (Ce d sz e m) Φ (awp P n0 (.loop c) (st n o objs) Q E):=by
  subst hk; subst ho
  intro y hy hp
  obtain ⟨I,⟨a,s',h1,h2⟩,h3⟩:=hr y hy hp
  exact ⟨I,⟨a,s',(TB hd h).trans h1,h2⟩,h3⟩
end
def kT:List (Nat × TI)→Nat→Option TI
  | [],_=>none
  | (k,i) :: l,t=>bif Nat.beq t k then some i else kT l t
theorem BH {P:Program}:∀ {l:List (Nat × TI)},(∀ e ∈ l,ti P e.1=some e.2)→∀ {t:Nat}{i:TI},kT l t=some i→ti P t=some i
  | [],_,_,_,h=>by cases h
  | (k,j) :: l,hl,t,i,h=>by
    unfold kT at h
    cases hb:Nat.beq t k with
    | true=>
      rw [hb] at h
      have e:t=k:=Nat.eq_of_beq_eq_true hb
      subst e
      simp only [cond_true,Option.some.injEq] at h
      subst h
      exact hl (t,j) List.mem_cons_self
    | false=>
      rw [hb] at h
      exact BH (fun e he=>hl e (List.mem_cons_of_mem _ he)) (by simpa using h)
/-! ### Composite values, by a table of types -/
def Nq (L:List (Nat × TI)) (i:TI) (j:Nat):Option (Nat × Nat) :=
  match i.desc with
  | .struct fs=>(fs.toList[j]?).bind fun (f:Field)=>(kT L f.type).map fun x=>(f.offset,x.size)
  | .array _ e=>(kT L e).map fun x=>(j * x.size,x.size)
  | _=>none
def Sf (L:List (Nat × TI)) (i:TI):Bool :=
  match i.desc with
  | .struct fs=>fs.toList.all fun (f:Field)=>(kT L f.type).isSome
  | .array _ e=>(kT L e).isSome
  | _=>false
theorem G7 {p q:Nat→Option (Nat × Nat)} (h:∀ j v,p j=some v→q j=some v):∀ {parts:List (Nat × AV)}{cs out:List AV},iV p cs parts=some out→iV q cs parts=some out
  | [],_,_,hf=>hf
  | (j,x) :: rest,cs,out,hf=>by
    simp only [iV] at hf ⊢
    cases hp:p j with
    | none=>rw [hp] at hf; cases hf
    | some v=>
      obtain ⟨off,size⟩:=v
      rw [hp] at hf
      rw [h j _ hp]
      cases hc:hU x with
      | none=>rw [hc] at hf; cases hf
      | some xs=>
        rw [hc] at hf
        simp only at hf ⊢
        split at hf
        · rename_i hh; rw [if_pos hh]; exact G7 h hf
        · cases hf
section
variable {P:Program}{L:List (Nat × TI)}{n:Nat}{o:List (Nat × AV)}{objs:List Obj}{t:TypeId}{parts:Array (Nat × Operand)}{i:TI}{cs:List AV}
theorem Nf (hL:∀ {t:Nat}{i:TI},kT L t=some i→ti P t=some i) (ht:kT L t=some i) (ha:Sf L i=true) (h:iV (Nq L i) (i.zero.map .v) (parts.toList.map fun p=>(p.1,evo n o p.2))=some cs):Val P (.build t parts) n o objs (.agg cs):=by
  refine SX (hL ht) ?_ (G7 ?_ h)
  · unfold Sf at ha
    split at ha
    · rename_i fs hd
      (try rw [hd])
      show wT P fs.toList=true
      generalize fs.toList=l at ha
      induction l with
      | nil=>rfl
      | cons f l ih=>
        simp only [List.all_cons,Bool.and_eq_true] at ha
        obtain ⟨x,hx⟩:=Option.isSome_iff_exists.1 ha.1
        simp only [wT,hL hx,Option.isSome_some,Bool.true_and]
        exact ih ha.2
    · rename_i k e hd
      (try rw [hd])
      obtain ⟨x,hx⟩:=Option.isSome_iff_exists.1 ha
      show (ti P e).isSome=true
      rw [hL hx]; rfl
    · cases ha
  · intro j v hv
    unfold Nq at hv
    unfold n8
    split at hv
    · rename_i fs hd
      (try rw [hd])
      simp only [Array.getElem?_toList] at hv
      cases hf:fs[j]? with
      | none=>rw [hf] at hv; cases hv
      | some f=>
        rw [hf] at hv
        simp only [Option.bind_some] at hv ⊢
        cases hx:kT L f.type with
        | none=>rw [hx] at hv; cases hv
        | some x=>rw [hx] at hv; rw [hf]; simp only [Option.bind_some]; rw [hL hx]; exact hv
    · rename_i k e hd
      (try rw [hd])
      simp only
      cases hx:kT L e with
      | none=>rw [hx] at hv; cases hv
      | some x=>rw [hx] at hv; rw [hL hx]; exact hv
    · cases hv
end
end Go.Proofs.YtgkmbhllcekagaaGreatDoor.AM
/- The steps of a region, in one form for all orders. -/
namespace Go.Proofs.YtgkmbhllcekagaaGreatDoor.AM
open Go
inductive Mo where
  | p | q | c
def rg (md:Mo) (P:Program) (ops l:List Oper) (s:AS) (K:AS→Prop) (E:AV→List Obj→Prop):Prop :=
  match md with
  | .p=>cQ P ops l s K E
  | .q=>fD P ops l s K
  | .c=>eT P ops.toArray l s K
def kst (md:Mo) (ops:List Oper) (p:Oper) (o:List (Nat × AV)):List (Nat × AV) :=
  match md with
  | .c=>lJ (Oper.looksAt ops.toArray p) o
  | _=>o
def rv (md:Mo) (gd:Option (Nat × Bool)) (v:AV):AV :=
  match md,gd with
  | .c,some _=>.cnd true v
  | _,_=>v
def JN (md:Mo) (op:Op):Bool :=
  match md with
  | .q=>isQ op
  | _=>true
def gev (n:Nat) (o:List (Nat × AV)) (ops:List Oper):Option (Nat × Bool)→Option Bool
  | none=>some true
  | some (j,w)=>nE n o w (sW ops j)
inductive NTg (P:Program) (op:Op) (n:Nat) (o:List (Nat × AV)) (objs:List Obj):Option (Nat × Bool)→Prop
  | no:NTg P op n o objs none
  | so {j:Nat}{w:Bool} (h:mJ P op n o objs):NTg P op n o objs (some (j,w))
section
variable {md:Mo}{P:Program}{β:Type}{m:Option β}{Φ:β→Prop}{ops rest:List Oper}{K:AS→Prop}{E:AV→List Obj→Prop}{n d:Nat}{o:List (Nat × AV)}{objs objs':List Obj}{op:Op}{ty:TypeId}{pos:String}{af:Array Edge}{v:AV}{gd:Option (Nat × Bool)}{g c:Bool}
theorem i7 (hm:JN md op=true) (hg:gev n (kst md ops ⟨some d,op,ty,pos,af,gd⟩ o) ops gd=some true) (ht:NTg P op n (kst md ops ⟨some d,op,ty,pos,af,gd⟩ o) objs gd)
    (hop:Val P op n (kst md ops ⟨some d,op,ty,pos,af,gd⟩ o) objs v) (h:H m Φ (rg md P ops rest (st n (oc d (rv md gd v) o) objs) K E)) :
    H m Φ (rg md P ops (⟨some d,op,ty,pos,af,gd⟩ :: rest) (st n o objs) K E):=by
  cases gd with
  | none=>
    cases md with
    | p=>exact S_v hop h
    | q=>exact Q_v hm hop h
    | c=>exact C_v rfl rfl hop h
  | some jw=>
    obtain ⟨j,w⟩:=jw
    cases ht with
    | so ht=>
      cases md with
      | p=>exact G_v (gG rfl hg) ht hop h
      | q=>exact Uj hm (gG rfl hg) ht hop h
      | c=>exact Uo rfl rfl (gG rfl hg) hop h
theorem wX {α:Type}{enc:α→AV}{e:α}{m:α→Option β} (hm:JN md op=true) (hg:gev n (kst md ops ⟨some d,op,ty,pos,af,gd⟩ o) ops gd=some true) (ht:NTg P op n (kst md ops ⟨some d,op,ty,pos,af,gd⟩ o) objs gd)
    (hop:Val P op n (kst md ops ⟨some d,op,ty,pos,af,gd⟩ o) objs (enc e)) (h:∀ z,H (m z) Φ (rg md P ops rest (st n (oc d (rv md gd (enc z)) o) objs) K E)) :
    H (aA enc e m) Φ (rg md P ops (⟨some d,op,ty,pos,af,gd⟩ :: rest) (st n o objs) K E):=i7 hm hg ht hop (h e)
theorem PK {j:Nat}{w:Bool} (hm:JN md op=true) (hg:nE n (kst md ops ⟨some d,op,ty,pos,af,some (j,w)⟩ o) w (sW ops j)=some g) (ht:p0 P op n (kst md ops ⟨some d,op,ty,pos,af,some (j,w)⟩ o) objs c v) (hi:g=true→c=true)
    (h:H m Φ (rg md P ops rest (st n (oc d (.cnd g v) o) objs) K E)):H m Φ (rg md P ops (⟨some d,op,ty,pos,af,some (j,w)⟩ :: rest) (st n o objs) K E):=by
  cases md with
  | p=>exact SK (gG rfl hg) ht hi h
  | q=>exact QT hm (gG rfl hg) ht hi h
  | c=>exact Sh rfl rfl (gG rfl hg) ht hi h
theorem RZ {α:Type}{enc:α→AV}{e:α}{m:α→Option β}{j:Nat}{w:Bool} (hm:JN md op=true) (hg:nE n (kst md ops ⟨some d,op,ty,pos,af,some (j,w)⟩ o) w (sW ops j)=some g) (ht:p0 P op n (kst md ops ⟨some d,op,ty,pos,af,some (j,w)⟩ o) objs c (enc e)) (hi:g=true→c=true)
    (h:∀ z,H (m z) Φ (rg md P ops rest (st n (oc d (.cnd g (enc z)) o) objs) K E)):H (aA enc e m) Φ (rg md P ops (⟨some d,op,ty,pos,af,some (j,w)⟩ :: rest) (st n o objs) K E):=PK hm hg ht hi (h e)
theorem TJ {j:Nat}{w:Bool} (hm:JN md op=true) (hg:nE n (kst md ops ⟨some d,op,ty,pos,af,some (j,w)⟩ o) w (sW ops j)=some false) (ht:mJ P op n (kst md ops ⟨some d,op,ty,pos,af,some (j,w)⟩ o) objs)
    (h:H m Φ (rg md P ops rest (st n (oc d (.cnd false .any) o) objs) K E)):H m Φ (rg md P ops (⟨some d,op,ty,pos,af,some (j,w)⟩ :: rest) (st n o objs) K E):=by
  cases md with
  | p=>exact TU (gG rfl hg) ht h
  | q=>exact Rh hm (gG rfl hg) ht h
  | c=>exact Q8 rfl rfl (gG rfl hg) h
theorem CK (hg:gev n o ops gd=some true) (ht:NTg P op n o objs gd) (hop:Eff P op n o objs v objs') (h:H m Φ (rg .p P ops rest (st n (oc d v o) objs') K E)):H m Φ (rg .p P ops (⟨some d,op,ty,pos,af,gd⟩ :: rest) (st n o objs) K E):=by
  cases gd with
  | none=>exact S_e hop h
  | some jw=>
    obtain ⟨j,w⟩:=jw
    cases ht with
    | so ht=>exact G_e (gG rfl hg) ht hop h
theorem yM (hg:gev n o ops gd=some true) (ht:NTg P op n o objs gd) (hop:Eff P op n o objs v objs') (h:H m Φ (rg .p P ops rest (st n o objs') K E)):H m Φ (rg .p P ops (⟨none,op,ty,pos,af,gd⟩ :: rest) (st n o objs) K E):=by
  cases gd with
  | none=>exact Un hop h
  | some jw=>
    obtain ⟨j,w⟩:=jw
    cases ht with
    | so ht=>exact Jm (s:=st n o objs) (s':=st n o objs') (j:=j) (want:=w) rfl (gG rfl hg) ht.eq (fun N E hN=>hop.run _ N E rfl hN) h
theorem B1 {α:Type}{enc:α→AV}{ob:α→List Obj}{e:α}{m:α→Option β} (hg:gev n o ops gd=some true) (ht:NTg P op n o objs gd) (hop:Eff P op n o objs (enc e) (ob e)) (h:∀ z,H (m z) Φ (rg .p P ops rest (st n (oc d (enc z) o) (ob z)) K E)):H (dT enc ob e m) Φ (rg .p P ops (⟨some d,op,ty,pos,af,gd⟩ :: rest) (st n o objs) K E):=CK hg ht hop (h e)
theorem zF {α:Type}{enc:α→AV}{ob:α→List Obj}{e:α}{m:α→Option β} (hg:gev n o ops gd=some true) (ht:NTg P op n o objs gd) (hop:Eff P op n o objs v (ob e)) (h:∀ z,H (m z) Φ (rg .p P ops rest (st n o (ob z)) K E)):H (dT enc ob e m) Φ (rg .p P ops (⟨none,op,ty,pos,af,gd⟩ :: rest) (st n o objs) K E):=yM hg ht hop (h e)
end
section
variable {P:Program}{β α:Type}{m:α→Option β}{Φ:β→Prop}{ops rest:List Oper}{K:AS→Prop}{E:AV→List Obj→Prop}{n d g:Nat}{o o1:List (Nat × AV)}{objs objs1:List Obj}{ty:TypeId}{pos:String}{af:Array Edge}{gd:Option (Nat × Bool)}
  {cal:Operand}{args:Array Operand}{at':Array TypeId}{first cap args':List AV}{e:Option α}{X:α→AV}{O:α→List Obj}{enc:α→AV}{ob:α→List Obj}
theorem RA (hg:gev n o ops gd=some true) (hc:evo n o cal=.fn g first cap) (hen:aW P g=true) (hf:∀ r,e=some r→Fun P g args' (X r) (O r)) (ha:AV.idsLtL 0 args'=true)
    (hle:AV.leL (AV.stripL (first ++ args.toList.map (evo n o) ++ cap)) args')
    (hp:AV.pubL objs (first ++ args.toList.map (evo n o) ++ cap)=objs1)
    (hx:∀ r,(X r).shift objs1.length=enc r)
    (ho:∀ r,objs1 ++ (O r).map (Obj.shift objs1.length)=ob r)
    (h:∀ r,H (m r) Φ (rg .p P ops rest (st n (oc d (enc r) o) (ob r)) K E)):H (aI enc ob e m) Φ (rg .p P ops (⟨some d,.call ⟨.value cal,args,at'⟩,ty,pos,af,gd⟩ :: rest) (st n o objs) K E):=by
  subst hp
  cases gd with
  | none=>exact Rq hc hen hf ha hle hx ho h
  | some jw=>obtain ⟨j,w⟩:=jw; exact Qc (gG rfl hg) hc hen hf ha hle hx ho h
theorem PN (hg:gev n (kst .c ops ⟨some d,.call ⟨.value cal,args,at'⟩,ty,pos,af,gd⟩ o) ops gd=some true) (hc:evo n (kst .c ops ⟨some d,.call ⟨.value cal,args,at'⟩,ty,pos,af,gd⟩ o) cal=.fn g first cap) (hen:aW P g=true) (hf:∀ r,e=some r→Fun P g args' (X r) (O r)) (ha:AV.idsLtL 0 args'=true)
    (hle:AV.leL (AV.stripL (first ++ args.toList.map (evo n (kst .c ops ⟨some d,.call ⟨.value cal,args,at'⟩,ty,pos,af,gd⟩ o)) ++ cap)) args')
    (hp:AV.pubL objs (first ++ args.toList.map (evo n (kst .c ops ⟨some d,.call ⟨.value cal,args,at'⟩,ty,pos,af,gd⟩ o)) ++ cap)=objs)
    (hx:∀ r,(X r).shift objs.length=enc r) (ho:∀ r,O r=[])
    (h:∀ r,H (m r) Φ (rg .c P ops rest (st n (oc d (rv .c gd (enc r)) o) objs) K E)):H (aI enc ob e m) Φ (rg .c P ops (⟨some d,.call ⟨.value cal,args,at'⟩,ty,pos,af,gd⟩ :: rest) (st n o objs) K E):=by
  have ho':∀ r,AV.pubL objs (first ++ args.toList.map (evo n (kst .c ops ⟨some d,.call ⟨.value cal,args,at'⟩,ty,pos,af,gd⟩ o)) ++ cap) ++ (O r).map (Obj.shift (AV.pubL objs (first ++ args.toList.map (evo n (kst .c ops ⟨some d,.call ⟨.value cal,args,at'⟩,ty,pos,af,gd⟩ o)) ++ cap)).length)=objs:=by
    intro r; rw [hp,ho r]; simp
  have hx':∀ r,(X r).shift (AV.pubL objs (first ++ args.toList.map (evo n (kst .c ops ⟨some d,.call ⟨.value cal,args,at'⟩,ty,pos,af,gd⟩ o)) ++ cap)).length=enc r:=by
    intro r; rw [hp]; exact hx r
  cases gd with
  | none=>exact P7 (ob:=ob) rfl rfl hc hen hf ha hle hx' ho' h
  | some jw=>obtain ⟨j,w⟩:=jw; exact Qz (ob:=ob) rfl rfl (gG rfl hg) hc hen hf ha hle hx' ho' h
end
section
variable {P:Program}{n0 n:Nat}{Q:AX→AS→Prop}{E:AV→List Obj→Prop}{β:Type}{m:Option β}{Φ:β→Prop}{s:AS}{K:AS→Prop}{ops:List Oper}
theorem TQ {id:Nat}{l:List Oper} (h:H m Φ (rg .p P l l s (Q .normal) E)):H m Φ (awp P n0 (.region id l.toArray false) s Q E):=OS h
theorem Rj {id:Nat}{l:List Oper} (e1:P.follows .mixedOrders=true) (e2:Region.lexB .any l.toArray=true) (h:H m Φ (rg .q P l l s (Q .normal) E)):H m Φ (awp P n0 (.region id l.toArray true) s Q E):=ND e1 e2 h
theorem RX {id:Nat}{l:List Oper} (e1:P.follows .mixedOrders=true) (e2:Region.lexB .any l.toArray=true) (h:H m Φ (rg .c P l l s (Q .normal) E)):H (fS m) Φ (awp P n0 (.region id l.toArray true) s Q E):=RI e1 e2 h
theorem RT (h:H m Φ (K s)):H m Φ (rg .p P ops [] s K E):=h
theorem RQ (h:H m Φ (K s)):H m Φ (rg .q P ops [] s K E):=h
theorem RH (h:H m Φ (K s)):H m Φ (rg .c P ops [] s K E):=h
end
end Go.Proofs.YtgkmbhllcekagaaGreatDoor.AM
/- Maps and objects that change places, for the models. -/
namespace Go.Proofs.YtgkmbhllcekagaaGreatDoor.AM
open Go
/-! ### Maps -/
def mlk {κ α:Type} [DecidableEq κ]:List (κ × α)→κ→Option α
  | [],_=>none
  | (a,x) :: es,k=>if k=a then some x else mlk es k
def mst {κ α:Type} [DecidableEq κ]:List (κ × α)→κ→α→List (κ × α)
  | [],k,x=>[(k,x)]
  | (a,y) :: es,k,x=>if k=a then (k,x) :: es else (a,y) :: mst es k x
def mdl {κ α:Type} [DecidableEq κ]:List (κ × α)→κ→List (κ × α)
  | [],_=>[]
  | (a,y) :: es,k=>if k=a then es else (a,y) :: mdl es k
def mp {κ α:Type} (kv:κ→Value) (av:α→AV) (es:List (κ × α)):List (Value × AV):=es.map fun e=>(kv e.1,av e.2)
def kS (s:Str):Value:=.string (bs s)
def kI (x:Int):Value:=.int .i64 x
structure rI {κ:Type} [DecidableEq κ] (kv:κ→Value) (d:TypeDesc):Prop where
  eq:∀ a b,j7 (kv a) (kv b)=decide (a=b)
  ok:∀ a,l6 d (kv a)=true
structure HZ {κ:Type} [DecidableEq κ] (P:Program) (kv:κ→Value) (d:TypeDesc):Prop where
  eq:∀ a b,j7 (kv a) (kv b)=decide (a=b)
  fit:∀ a,vA P d (kv a)
theorem rI.a {κ:Type} [DecidableEq κ] {P:Program}{kv:κ→Value}{d:TypeDesc} (h:rI kv d):HZ P kv d:=⟨h.eq,fun a=>.inl (h.ok a)⟩
theorem HZ.all {κ α:Type} [DecidableEq κ] {P:Program}{kv:κ→Value}{av:α→AV}{d:TypeDesc} (h:HZ P kv d) (es:List (κ × α)):∀ e ∈ es.map (fun e=>(kv e.1,av e.2)),vA P d e.1:=by
  intro e he
  obtain ⟨p,_,rfl⟩:=List.mem_map.1 he
  exact h.fit p.1
theorem u5:rI kS .string:=⟨fun a b=>by simp only [kS,j7]; exact vM a b,fun _=>rfl⟩
theorem vZ:rI kI (.int .i64):=⟨fun a b=>by simp [kI,j7],fun _=>rfl⟩
section
variable {κ α:Type} [DecidableEq κ] {kv:κ→Value}{av:α→AV}{d:TypeDesc}
theorem DT (h:∀ a b,j7 (kv a) (kv b)=decide (a=b)) (k:κ):∀ es:List (κ × α),Av (mp kv av es) (kv k)=(mlk es k).map av
  | []=>rfl
  | (a,x) :: es=>by
    have ih:=DT h k es
    simp only [mp,List.map_cons,Av,mlk,h] at ih ⊢
    by_cases hk:k=a
    · simp [hk]
    · simp [hk,ih]
theorem Jy (h:∀ a b,j7 (kv a) (kv b)=decide (a=b)) (k:κ) (x:α):∀ es:List (κ × α),Bu (mp kv av es) (kv k) (av x)=mp kv av (mst es k x)
  | []=>rfl
  | (a,y) :: es=>by
    have ih:=Jy h k x es
    simp only [mp,List.map_cons,Bu,mst,h] at ih ⊢
    by_cases hk:k=a
    · simp [hk]
    · simp [hk,ih]
theorem PP (h:rI kv d) (es:List (κ × α)):Fu d (mp kv av es):=by
  intro e he
  obtain ⟨p,_,rfl⟩:=List.mem_map.1 he
  exact h.ok p.1
theorem jY {n:Nat}{es:List (κ × α)} (h:∀ a,(av a).idsLt n=true):(Obj.map (mp kv av es)).idsLt n=true:=by
  simp only [Obj.idsLt,List.all_eq_true]
  intro e he
  obtain ⟨p,_,rfl⟩:=List.mem_map.1 he
  exact h p.2
theorem j0 {n:Nat}{x:Obj}{xs:List Obj} (h:x.idsLt n=true) (k:cG n xs=true):cG n (x :: xs)=true:=by
  unfold cG; rw [h,k]; rfl
end
section
variable {P:Program}{n:Nat}{o:List (Nat × AV)}{objs objs':List Obj}{x y z:Operand}{t:TypeId}
theorem Q4 {k:Nat} (hk:objs.length=k) (ho:objs ++ [.map []]=objs'):Eff P (.makeMap t none) n o objs (.map k) objs':=RB hk ho
section
variable {κ α:Type} [DecidableEq κ] {kv:κ→Value}{av:α→AV}{es:List (κ × α)}{i ki:TI}{kt et:TypeId}{k:Nat}{key:κ}{zv:Value}
  (ht:ti P t=some i) (hd:i.desc=.map kt et) (hk:ti P kt=some ki) (hx:evo n o x=.map k) (ho:objs[k]?=some (.map (mp kv av es)))
section
variable (hq:HZ P kv ki.desc) (hy:D7 (evo n o y)=some (kv key))
include ht hd hk hx ho hq hy
theorem NL {ok:Bool}{v:AV} (hz:(P.info? et).bind (·.zero)=some zv) (h1:∀ a,mlk es key=some a→v=if ok then .tup [av a,.v (.bool true)] else av a) (h2:mlk es key=none→v=if ok then .tup [AV.ofValue zv,.v (.bool false)] else AV.ofValue zv):Val P (.lookup t x y ok) n o objs v:=by
  refine ⟨?_⟩; intro p N E hp hN; unfold aop; rw [hp]; dsimp only; rw [aX,aX,hx]; unfold vL; rw [ht]; dsimp only; rw [hd]; dsimp only; rw [hk,hz,hy]; dsimp only; rw [ho]; dsimp only
  refine ⟨hq.fit key,hq.all es,fun u hu=>?_,fun hu=>?_⟩
  · rw [DT hq.eq] at hu
    cases hl:mlk es key with
    | none=>rw [hl] at hu; cases hu
    | some a=>rw [hl] at hu; cases hu; rw [h1 a hl] at hN; exact hN
  · rw [DT hq.eq] at hu
    cases hl:mlk es key with
    | none=>rw [h2 hl] at hN; exact hN
    | some a=>rw [hl] at hu; cases hu
theorem IK {a:α}{w:AV} (hw:evo n o z=w) (hv:w=av a) (ho':objs.set k (.map (mp kv av (mst es key a)))=objs'):Eff P (.mapUpdate t x y z) n o objs .any objs':=by
  refine ⟨?_⟩; intro p N E hp hN; unfold aop; rw [hp]; dsimp only; rw [aX,aX,aX,hx,hw,hv]; unfold pB; rw [ht]; dsimp only; rw [hd]; dsimp only; rw [hk,hy]; dsimp only; rw [ho]; dsimp only
  refine ⟨hq.fit key,hq.all es,?_⟩
  rw [Jy hq.eq,ho']; exact hN
end
variable (hq:rI kv ki.desc) (hy:evo n o y=.v (kv key))
include ht hd hk hx ho hq hy
theorem Cv {ok:Bool}{v:AV} (hz:(P.info? et).bind (·.zero)=some zv) (h1:∀ a,mlk es key=some a→v=if ok then .tup [av a,.v (.bool true)] else av a) (h2:mlk es key=none→v=if ok then .tup [AV.ofValue zv,.v (.bool false)] else AV.ofValue zv):Val P (.lookup t x y ok) n o objs v :=
  NL ht hd hk hx ho hq.a (by rw [hy]; rfl) hz h1 h2
theorem Tn {a:α} (hz:(P.info? et).bind (·.zero)=some zv) (hl:mlk es key=some a):Val P (.lookup t x y true) n o objs (.tup [av a,.v (.bool true)]) :=
  Cv ht hd hk hx ho hq hy hz (fun b hb=>by rw [hl] at hb; cases hb; rfl) (fun h=>by rw [hl] at h; cases h)
theorem PF (hz:(P.info? et).bind (·.zero)=some zv) (hl:mlk es key=none):Val P (.lookup t x y true) n o objs (.tup [AV.ofValue zv,.v (.bool false)]) :=
  Cv ht hd hk hx ho hq hy hz (fun b hb=>by rw [hl] at hb; cases hb) (fun _=>rfl)
theorem RG {a:α} (hz:(P.info? et).bind (·.zero)=some zv) (hl:mlk es key=some a):Val P (.lookup t x y false) n o objs (av a) :=
  Cv ht hd hk hx ho hq hy hz (fun b hb=>by rw [hl] at hb; cases hb; rfl) (fun h=>by rw [hl] at h; cases h)
theorem Ns (hz:(P.info? et).bind (·.zero)=some zv) (hl:mlk es key=none):Val P (.lookup t x y false) n o objs (AV.ofValue zv) :=
  Cv ht hd hk hx ho hq hy hz (fun b hb=>by rw [hl] at hb; cases hb) (fun _=>rfl)
theorem Ua {a:α}{w:AV} (hw:evo n o z=w) (hv:w=av a) (ho':objs.set k (.map (mp kv av (mst es key a)))=objs'):Eff P (.mapUpdate t x y z) n o objs .any objs' :=
  IK ht hd hk hx ho hq.a (by rw [hy]; rfl) hw hv ho'
end
section
variable {κ:Type} [DecidableEq κ] {kv:κ→Value}{i ki:TI}{kt et:TypeId}{k:Nat}{key:κ}
  (ht:ti P t=some i) (hd:i.desc=.map kt et) (hk:ti P kt=some ki) (hx:evo n o x=.map k)
include ht hd hk hx
theorem T2 {es:List (κ × Bool)} (ho:objs[k]?=some (.map (mp kv vB es))) (hq:rI kv ki.desc) (hy:evo n o y=.v (kv key)) (hz:(P.info? et).bind (·.zero)=some (.bool false)):Val P (.lookup t x y false) n o objs (.v (.bool ((mlk es key).getD false))) :=
  Cv ht hd hk hx ho hq hy hz (fun b hb=>by rw [hb]; rfl) (fun h=>by rw [h]; rfl)
theorem N9 {es:List (κ × Bool)} (ho:objs[k]?=some (.map (mp kv vB es))) (hq:HZ P kv ki.desc) (hy:D7 (evo n o y)=some (kv key)) (hz:(P.info? et).bind (·.zero)=some (.bool false)):Val P (.lookup t x y false) n o objs (.v (.bool ((mlk es key).getD false))) :=
  NL ht hd hk hx ho hq hy hz (fun b hb=>by rw [hb]; rfl) (fun h=>by rw [h]; rfl)
theorem Sv {es:List (κ × Int)} (ho:objs[k]?=some (.map (mp kv vI es))) (hq:rI kv ki.desc) (hy:evo n o y=.v (kv key)) (hz:(P.info? et).bind (·.zero)=some (.int .i64 0)):Val P (.lookup t x y false) n o objs (.v (.int .i64 ((mlk es key).getD 0))) :=
  Cv ht hd hk hx ho hq hy hz (fun b hb=>by rw [hb]; rfl) (fun h=>by rw [h]; rfl)
end
end
/-! ### Objects change places -/
def swp (a b i:Nat):Nat:=if i=a then b else if i=b then a else i
theorem Zy (a b i:Nat):swp a b (swp a b i)=i:=by unfold swp; split <;> split <;> (try split) <;> omega
def Tk.ren (f:Nat→Nat):Tk→Tk
  | .own o=>.own (f o)
  | t=>t
mutual
def AV.ren (f:Nat→Nat):AV→AV
  | .v x=>.v x
  | .sl rows t=>.sl rows (t.ren f)
  | .agg cs=>.agg (AV.renL f cs)
  | .tup cs=>.tup (AV.renL f cs)
  | .ptr o off=>.ptr (f o) off
  | .ep rows i off t=>.ep rows i off (t.ren f)
  | .bsl o off len=>.bsl (f o) off len
  | .map o=>.map (f o)
  | .fn g a b=>.fn g (AV.renL f a) (AV.renL f b)
  | .cnd g x=>.cnd g (x.ren f)
  | .any=>.any
def AV.renL (f:Nat→Nat):List AV→List AV
  | []=>[]
  | x :: xs=>x.ren f :: AV.renL f xs
end
def Obj.ren (f:Nat→Nat):Obj→Obj
  | .box cs=>.box (AV.renL f cs)
  | .map es=>.map (es.map fun e=>(e.1,e.2.ren f))
  | .mapB bs c es=>.mapB bs c (es.map fun e=>(e.1,e.2.ren f))
  | .iter m since seen=>.iter (f m) since seen
  | .bld e buf=>.bld e (buf.ren f)
  | x=>x
theorem eL (f:Nat→Nat):∀ xs:List AV,(AV.renL f xs).length=xs.length
  | []=>rfl
  | _ :: xs=>by simp [AV.renL,eL f xs]
theorem vE {f:Nat→Nat} (xs:List AV):∀ {i:Nat}{y:AV},(AV.renL f xs)[i]?=some y→∃ x,xs[i]?=some x∧y=x.ren f:=by
  induction xs with
  | nil=>intro i y h; simp [AV.renL] at h
  | cons x xs ih=>
    intro i y h
    cases i with
    | zero=>simp [AV.renL] at h; exact ⟨x,rfl,h.symm⟩
    | succ i=>simp only [AV.renL,List.getElem?_cons_succ] at h; exact ih h
section
variable {G G':aL}{f:Nat→Nat} (hb:∀ (o:Nat) g,G.bl[o]?=some g→G'.bl[f o]?=some g) (hi:G'.imm=G.imm)
include hb hi
theorem NS {t:Tk}{b off:Nat} (h:G.im t b off):G'.im (t.ren f) b off:=by
  cases t with
  | none=>show G'.imm b off; rw [hi]; exact h
  | exact=>show G'.imm b off; rw [hi]; exact h
  | own o=>
    rcases h with h | ⟨l,c,s,h1,h2⟩
    · exact .inl (by rw [hi]; exact h)
    · exact .inr ⟨l,c,s,hb o _ h1,h2⟩
theorem aO.ren {w:World}{x:AV}{v:Value} (h:aO G w x v):aO G' w (x.ren f) v:=by
  induction h with
  | v x hx=>exact .v x hx
  | any x=>exact .any x
  | cnd g y x _ h' ih=>exact .cnd g _ x ih h'
  | sl rows t x hd ht=>
    refine .sl rows _ x (hd.mono (fun _ _ _=>rfl) (fun b off h=>NS hb hi h) (fun _ _ _=>rfl) (fun _ _ h=>by rw [hi]; exact h)) ?_
    cases t with
    | none=>trivial
    | exact=>exact ht
    | own o=>
      rcases ht with ⟨l,h1,h2⟩ | ⟨b,l,c,sz,ex,h1,h2⟩
      · exact .inl ⟨l,hb o _ h1,h2⟩
      · exact .inr ⟨b,l,c,sz,ex,hb o _ h1,h2⟩
  | agg cs vs hl h1 _ ih=>
    refine .agg _ vs (by rw [eL]; exact hl) h1 (fun i c v hc hv=>?_)
    obtain ⟨x,hx,rfl⟩:=vE _ hc
    exact ih i x v hx hv
  | tup cs vs hl _ ih=>
    refine .tup _ vs (by rw [eL]; exact hl) (fun i c v hc hv=>?_)
    obtain ⟨x,hx,rfl⟩:=vE _ hc
    exact ih i x v hx hv
  | ptr o off b h=>exact .ptr _ off b (hb o _ h)
  | ep rows i off t b st sz h c ht=>
    refine .ep rows i off _ b st sz (h.mono (fun _ _ _=>rfl) (fun b off h=>NS hb hi h) (fun _ _ _=>rfl) (fun _ _ h=>by rw [hi]; exact h)) c ?_
    cases t with
    | none=>trivial
    | exact=>exact ht
    | own o=>
      rcases ht with ⟨l,h1,h2⟩ | ⟨b,l,c,sz,ex,h1,h2⟩
      · exact .inl ⟨l,hb o _ h1,h2⟩
      · exact .inr ⟨b,l,c,sz,ex,hb o _ h1,h2⟩
  | bsl o off len cap b h h1 h2=>exact .bsl _ off len cap b (hb o _ h) h1 h2
  | bsl0 o off cap a h2=>exact .bsl0 _ off cap a h2
  | map o b h=>exact .map _ b (hb o _ h)
  | fn f first cap vf vc h1 h2 _ _ ih1 ih2=>
    refine .fn f _ _ vf vc (by rw [eL]; exact h1) (by rw [eL]; exact h2) (fun i c v hc hv=>?_) (fun i c v hc hv=>?_)
    · obtain ⟨x,hx,rfl⟩:=vE _ hc
      exact ih1 i x v hx hv
    · obtain ⟨x,hx,rfl⟩:=vE _ hc
      exact ih2 i x v hx hv
theorem g9.ren {w:World}{g:GB}{x:Obj} (h:g9 G w g x):g9 G' w g (x.ren f):=by
  cases x with
  | box cs=>
    rcases h with ⟨rfl,l,hl⟩ | ⟨b,c,e,e1,e2,e3,e4,e5⟩
    · exact .inl ⟨rfl,l,hl⟩
    · refine .inr ⟨b,c,e,e1,e2,by rw [eL]; exact e3,fun j z v hz hv=>?_,fun off=>by rw [hi]; exact e5 off⟩
      obtain ⟨y,hy,rfl⟩:=vE _ hz
      obtain ⟨q1,q2⟩:=e4 j y v hy hv
      exact ⟨q1,q2.ren hb hi⟩
  | tok l sz e ex=>
    rcases h with h | ⟨b,cap,cur,e1,e2,e3,e4,e5,e6,e7⟩
    · exact .inl h
    · exact .inr ⟨b,cap,cur,e1,e2,e3,e4,e5,fun hx off=>by rw [hi]; exact e6 hx off,fun hx off=>by rw [hi]; exact e7 hx off⟩
  | lin v sz e rows=>
    rcases h with h | ⟨b,cap,cur,e1,e2,e3,e4,e5,e6,e7,e8⟩
    · exact .inl h
    · exact .inr ⟨b,cap,cur,e1,e2,e3,e4,e5,e6,fun off=>by rw [hi]; exact e7 off,e8.mono (fun _ _ _=>rfl) (fun _ _ h=>h) (fun _ _ _=>rfl) (fun _ _ h=>by rw [hi]; exact h)⟩
  | map es=>
    obtain ⟨b,ents,clock,e1,e2,e3,e4,e5,e6⟩:=h
    refine ⟨b,ents,clock,e1,e2,by simpa using e3,fun i k y e hk he=>?_,e5,fun off=>by rw [hi]; exact e6 off⟩
    rw [List.getElem?_map] at hk
    cases hes:es[i]? with
    | none=>rw [hes] at hk; cases hk
    | some p=>
      rw [hes] at hk
      simp only [Option.map_some,Option.some.injEq,Prod.mk.injEq] at hk
      obtain ⟨rfl,rfl⟩:=hk
      obtain ⟨q1,q2,q3⟩:=e4 i p.1 p.2 e hes he
      exact ⟨q1,q2.ren hb hi,q3⟩
  | mapB bs clock es=>
    obtain ⟨b,ents,e1,e2,e3,e4,e5,e7,e6⟩:=h
    refine ⟨b,ents,e1,e2,by simpa using e3,fun i k y e hk he=>?_,e5,e7,fun off=>by rw [hi]; exact e6 off⟩
    rw [List.getElem?_map] at hk
    cases hes:es[i]? with
    | none=>rw [hes] at hk; cases hk
    | some p=>
      rw [hes] at hk
      simp only [Option.map_some,Option.some.injEq,Prod.mk.injEq] at hk
      obtain ⟨rfl,rfl⟩:=hk
      obtain ⟨q1,q2,q3⟩:=e4 i p.1 p.2 e hes he
      exact ⟨q1,q2.ren hb hi,q3⟩
  | iter m since seen=>
    obtain ⟨b,mb,e1,e2,e3,e4⟩:=h
    exact ⟨b,mb,e1,hb m _ e2,e3,fun off=>by rw [hi]; exact e4 off⟩
  | siter s pos=>
    obtain ⟨b,e1,e2,e3⟩:=h
    exact ⟨b,e1,e2,fun off=>by rw [hi]; exact e3 off⟩
  | bld e buf=>
    obtain ⟨b,c0,c1,e1,e2,e3,e4,e5,e6⟩:=h
    exact ⟨b,c0,c1,e1,e2,e3,e4,e5.ren hb hi,fun off=>by rw [hi]; exact e6 off⟩
  | dead=>exact h
end
theorem I6 {α:Type}{l:List α}{a b:Nat}{x y:α} (ha:l[a]?=some x) (hb:l[b]?=some y) (o:Nat):((l.set a y).set b x)[swp a b o]?=l[o]?:=by
  have hal:=(List.getElem?_eq_some_iff.1 ha).1
  have hbl:=(List.getElem?_eq_some_iff.1 hb).1
  rw [List.getElem?_set,List.getElem?_set]
  unfold swp
  by_cases h1:o=a
  · subst h1
    simp only [if_true,List.length_set]
    rw [if_pos hbl,ha]
  · by_cases h2:o=b
    · subst h2
      simp only [h1,if_false,if_true]
      by_cases h3:o=a
      · exact (h1 h3).elim
      · rw [if_pos hal,hb]
    · simp only [h1,h2,if_false]
      rw [if_neg (fun h=>h2 h.symm),if_neg (fun h=>h1 h.symm)]
theorem B5 {α:Type}{l:List α}{a b:Nat}{x y:α} (ha:l[a]?=some x) (hb:l[b]?=some y) (o:Nat):((l.set a y).set b x)[o]?=l[swp a b o]?:=by
  have:=I6 ha hb (swp a b o)
  rw [Zy] at this; exact this
theorem PA (n:Nat) (g:AV→AV) (hg:g .any=.any):∀ o:List (Nat × AV),(ov n o).map g=ov n (o.map fun e=>(e.1,g e.2))
  | []=>by simp [ov,hg]
  | (d,x) :: r=>by simp only [ov,List.map_cons,List.map_set,PA n g hg r]
theorem QQ {n0 n a b:Nat}{o o':List (Nat × AV)}{objs objs':List Obj}{x y:Obj} (ha:objs[a]?=some x) (hb:objs[b]?=some y) (hn:n0≤a∧n0≤b)
    (ho:o.map (fun e=>(e.1,e.2.ren (swp a b)))=o') (hobj:((objs.set a y).set b x).map (Obj.ren (swp a b))=objs'):b6 n0 (st n o objs) (st n o' objs'):=by
  subst ho; subst hobj
  intro _ G0 w0 G act w hn0 hf
  have hm:=hf.sat.mem
  obtain ⟨ga,hga,_⟩:=hm.obj ha
  obtain ⟨gb,hgb,_⟩:=hm.obj hb
  have hsw:=I6 hga hgb
  have hsw2:=B5 hga hgb
  let G':aL:=⟨(G.bl.set a gb).set b ga,G.imm⟩
  have hbl:∀ (o:Nat) g,G.bl[o]?=some g→G'.bl[swp a b o]?=some g:=fun o g h=>by show ((G.bl.set a gb).set b ga)[swp a b o]?=_; rw [hsw]; exact h
  have hbl':∀ (o:Nat) g,G'.bl[o]?=some g→G.bl[swp a b o]?=some g:=fun o g h=>by rw [← hsw2 o]; exact h
  have hlow:∀ o,o < n0→swp a b o=o:=fun o ho=>by unfold swp; rw [if_neg (by omega),if_neg (by omega)]
  have hG0:∀ (o:Nat) g,G0.bl[o]?=some g→o < n0:=fun o g h=>by rw [← hn0]; exact (List.getElem?_eq_some_iff.1 h).1
  have him:∀ t b o,G0.im t b o→G.im t b o→G'.im t b o:=fun t bb oo h0 h=>by
    cases t with
    | none=>exact h
    | exact=>exact h
    | own k=>
      rcases h with h | ⟨l,c,s,h1,h2⟩
      · exact .inl h
      · rcases h0 with h0 | ⟨l0,c0,s0,k1,_⟩
        · exact .inl (hf.step.ext.imm bb oo h0)
        · refine .inr ⟨l,c,s,?_,h2⟩
          have:=hbl k _ h1
          rwa [hlow k (hG0 k _ k1)] at this
  refine ⟨G',⟨⟨hf.step.ext.cells,fun t bb oo h=>him t bb oo h (hf.step.ext.im t bb oo h),fun k bb h=>?_,fun k l h=>?_,fun k bb l c s e h=>?_⟩,hf.step.heap,hf.step.size,hf.step.os,hf.step.tape,hf.step.output,hf.step.imm2,fun k g bb h1 h2=>hf.step.blk _ g bb (hbl' k g h1) h2⟩,?_⟩
  · have:=hbl k _ (hf.step.ext.obj k bb h); rwa [hlow k (hG0 k _ h)] at this
  · rcases hf.step.ext.full k l h with h1 | ⟨b1,l1,c1,s1,e1,h1,h2⟩
    · have:=hbl k _ h1; rw [hlow k (hG0 k _ h)] at this; exact .inl this
    · have:=hbl k _ h1; rw [hlow k (hG0 k _ h)] at this; exact .inr ⟨b1,l1,c1,s1,e1,this,h2⟩
  · obtain ⟨b1,l1,c1,s1,e1,h1,h2⟩:=hf.step.ext.tok k bb l c s e h
    have:=hbl k _ h1; rw [hlow k (hG0 k _ h)] at this; exact ⟨b1,l1,c1,s1,e1,this,h2⟩
  · refine ⟨⟨?_,fun k z g hz hg=>?_,fun k k' g g' bb h1 h2 h3 h4=>?_,fun k g bb h1 h2=>hm.lt _ g bb (hbl' k g h1) h2,hm.immLt⟩,?_,hf.sat.defers⟩
    · show ((G.bl.set a gb).set b ga).length=(((objs.set a y).set b x).map (Obj.ren (swp a b))).length
      have:=hm.len; simp only [List.length_set,List.length_map] at this ⊢; exact this
    · rw [List.getElem?_map,B5 ha hb] at hz
      cases hq:objs[swp a b k]? with
      | none=>rw [hq] at hz; cases hz
      | some q=>
        rw [hq] at hz
        cases hz
        exact (hm.ok _ q g hq (hbl' k g hg)).ren hbl rfl
    · have:=hm.inj _ _ g g' bb (hbl' k g h1) (hbl' k' g' h2) h3 h4
      have h5:=congrArg (swp a b) this
      rwa [Zy,Zy] at h5
    · have ht:=hf.sat.tmps
      have he:(st n (o.map fun e=>(e.1,e.2.ren (swp a b))) ((((objs.set a y).set b x).map (Obj.ren (swp a b))))).tmps=(st n o objs).tmps.map (AV.ren (swp a b)):=(PA n (AV.ren (swp a b)) rfl o).symm
      rw [he]
      refine ⟨by rw [List.length_map]; exact ht.1,fun i z v hz hv=>?_⟩
      rw [List.getElem?_map] at hz
      cases hq:(st n o objs).tmps[i]? with
      | none=>rw [hq] at hz; cases hz
      | some q=>
        rw [hq] at hz
        cases hz
        exact (ht.2 i q v hq hv).ren hbl rfl
def Mi {β:Type} (_a _b:Nat) (m:Option β):Option β:=m
section
variable {P:Program}{n0 n k a b:Nat}{I:Nat→AS→Prop}{Q:AX→AS→Prop}{E:AV→List Obj→Prop}{β:Type}{m:Option β}{Φ:β→Prop}{o o':List (Nat × AV)}{objs objs':List Obj}{x y:Obj}{next:AS→Prop}{c:Code}
variable (ha:objs[a]?=some x) (hb:objs[b]?=some y) (hn:n0≤a∧n0≤b) (ho:o.map (fun e=>(e.1,e.2.ren (swp a b)))=o') (hobj:((objs.set a y).set b x).map (Obj.ren (swp a b))=objs')
include ha hb hn ho hobj
theorem PX (hr:H m Φ (pO n0 I k Q .normal (st n o' objs'))):H (Mi a b m) Φ (pO n0 I k Q .normal (st n o objs)):=by
  intro y hy hp
  obtain ⟨q,s',h1,h2⟩:=hr y hy hp
  exact ⟨q,s',(QQ ha hb hn ho hobj).trans h1,h2⟩
end
end Go.Proofs.YtgkmbhllcekagaaGreatDoor.AM
/- Sorting, slices held against nil, for the models. -/
namespace Go.Proofs.YtgkmbhllcekagaaGreatDoor.AM
open Go
/-! ### nil -/
open Classical in
noncomputable def IR {α β:Type} (l:List α) (m1 m2:Option β):Option β:=if (l=[]→m1=m2) then m2 else none
section
variable {P:Program}{β α:Type}{m1 m2:Option β}{Φ:β→Prop}{ops rest:List Oper}{K:AS→Prop}{E:AV→List Obj→Prop}{n d:Nat}{o:List (Nat × AV)}{objs:List Obj}{ty t t':TypeId}{pos:String}{af:Array Edge}{x y:Operand}{c:α→List D}{l:List α}{tg:Tk}{i:TI}
theorem R9 {z:β} (h:IR l m1 m2=some z):m2=some z∧(l=[]→m1=some z):=by
  unfold IR at h
  split at h
  · rename_i hh; exact ⟨h,fun e=>by rw [hh e]; exact h⟩
  · cases h
theorem S1 (ht:ti P t=some i) (hd:Fj i.desc=true) (hx:evo n o x=.sl (l.map c) tg) (hy:evo n o y=.v (.slice none 0 0))
    (h1:H m1 Φ (rg .p P ops rest (st n (oc d (.v (.bool true)) o) objs) K E)) (h2:H m2 Φ (rg .p P ops rest (st n (oc d (.v (.bool false)) o) objs) K E)) :
    H (IR l m1 m2) Φ (rg .p P ops (⟨some d,.binOp .eql t x y t',ty,pos,af,none⟩ :: rest) (st n o objs) K E):=by
  intro z hz hp
  obtain ⟨k2,k1⟩:=R9 hz
  unfold rg; dsimp only; unfold cQ dX aop; dsimp only
  rw [aX,aX,hx,hy]
  unfold wU
  dsimp only
  rw [ht]
  exact ⟨hd,fun e=>h1 z (k1 (List.map_eq_nil_iff.1 e)) hp,h2 z k2 hp⟩
end
section
variable {P:Program}{β:Type}{r v:β}{n:Nat}{o:List (Nat × AV)}{objs:List Obj}{rs:List ResultVar}{X:β→AV}{O:β→List Obj}
theorem Qt {sz e:Nat} (hr:z6 n o rs=some [.v (.slice none 0 0)]) (hx:X v=.sl [] (.own 0)) (ho:O v=[.tok 0 sz e true]) :
    H (aH v) (fun y=>y=r) (pG P 0 rs (pK X O r) .ret (st n o objs)):=by
  refine Ab ?_
  rintro rfl
  refine ⟨.v (.slice none 0 0),by unfold qZ; rw [oC hr]; rfl,X v,O v,?_,rfl,rfl⟩
  rw [hx,ho]
  exact (b6.gen (tmps:=[.v (.slice none 0 0)]) (tmps':=[.v (.slice none 0 0)]) (objs':=[]) ⟨AV.le_refl _,trivial⟩ (AG _) (Nat.zero_le _) rfl rfl).trans (b6.tok (s:=⟨[.v (.slice none 0 0)],[]⟩) 0 sz e true rfl)
end
/-! ### sorted -/
structure J4 {α:Type} (f:α→α→Option Int) (cf:α→α→Int) (l:List α):Prop where
  run:∀ x ∈ l,∀ y ∈ l,f x y=some (cf x y)
  irr:∀ x ∈ l,¬ cf x x < 0
  tr:∀ x ∈ l,∀ y ∈ l,∀ z ∈ l,cf x y < 0→cf y z < 0→cf x z < 0
  ntr:∀ x ∈ l,∀ y ∈ l,∀ z ∈ l,¬ cf x y < 0→¬ cf y z < 0→¬ cf x z < 0
  big:l.length < 4611686018427387904
def Mw {α β:Type} (f:α→α→Option Int) (l:List α) (m:List α→Option β) (y:β):Prop :=
  ∃ cf,J4 f cf l∧∀ l':List α,l'.Perm l→l'.Pairwise (fun p q=>¬ cf q p < 0)→m l'=some y
open Classical in
noncomputable def CM {α β:Type} (f:α→α→Option Int) (l:List α) (m:List α→Option β):Option β :=
  if h:∃ y,Mw f l m y then some (Classical.choose h) else none
theorem L3 {α β:Type}{f:α→α→Option Int}{l:List α}{m:List α→Option β}{y:β} (h:CM f l m=some y):Mw f l m y:=by
  unfold CM at h
  split at h
  · rename_i hh; cases h; exact Classical.choose_spec hh
  · cases h
theorem Gu {α:Type}{f:α→α→Option Int}{cf:α→α→Int}{l:List α} (h:J4 f cf l):∃ l':List α,l'.Perm l∧l'.Pairwise (fun p q=>¬ cf q p < 0):=by
  obtain ⟨_,hirr,htr,hntr,_⟩:=h
  have key:∀ l0:List α,(∀ x ∈ l0,x ∈ l)→∃ l':List α,l'.Perm l0∧l'.Pairwise (fun p q=>¬ cf q p < 0):=by
    intro l0
    induction l0 with
    | nil=>intro _; exact ⟨[],List.Perm.refl _,List.Pairwise.nil⟩
    | cons a l0 ih=>
      intro hm
      obtain ⟨l1,hp,hs⟩:=ih fun x hx=>hm x (List.mem_cons_of_mem _ hx)
      have ha:=hm a List.mem_cons_self
      have hl1:∀ x ∈ l1,x ∈ l:=fun x hx=>hm x (List.mem_cons_of_mem _ (hp.mem_iff.1 hx))
      refine ⟨l1.filter (fun x=>decide (cf x a < 0)) ++ a :: l1.filter (fun x=>!decide (cf x a < 0)),?_,?_⟩
      · refine List.perm_middle.trans (List.Perm.cons a ?_)
        exact (List.filter_append_perm (fun x=>decide (cf x a < 0)) l1).trans hp
      · rw [List.pairwise_append]
        refine ⟨hs.filter _,?_,?_⟩
        · rw [List.pairwise_cons]
          refine ⟨fun x hx=>?_,hs.filter _⟩
          rw [List.mem_filter] at hx
          simpa using hx.2
        · intro x hx y hy
          rw [List.mem_filter] at hx
          have hxa:cf x a < 0:=by simpa using hx.2
          rcases List.mem_cons.1 hy with rfl | hy
          · intro h; exact hirr x (hl1 x hx.1) (htr x (hl1 x hx.1) y ha x (hl1 x hx.1) hxa h)
          · rw [List.mem_filter] at hy
            have hya:¬ cf y a < 0:=by simpa using hy.2
            intro h; exact hya (htr y (hl1 y hy.1) x (hl1 x hx.1) a ha h hxa)
  exact key l fun x h=>h
theorem OX {α β:Type}{f:α→α→Option Int}{l:List α}{m:List α→Option β}{y:β} (cf:α→α→Int) (h:J4 f cf l) (hm:∀ l':List α,l'.Perm l→l'.Pairwise (fun p q=>¬ cf q p < 0)→m l'=some y):CM f l m=some y:=by
  have hex:∃ y,Mw f l m y:=⟨y,cf,h,hm⟩
  unfold CM
  rw [dif_pos hex]
  obtain ⟨cf',h',hm'⟩:=Classical.choose_spec hex
  obtain ⟨l',hp,hs⟩:=Gu h'
  have e1:=hm' l' hp hs
  have hs':l'.Pairwise (fun p q=>¬ cf q p < 0):=by
    refine hs.imp_of_mem ?_
    intro a b ha hb hab
    have ra:=h.run b (hp.mem_iff.1 hb) a (hp.mem_iff.1 ha)
    rw [h'.run b (hp.mem_iff.1 hb) a (hp.mem_iff.1 ha)] at ra
    rw [← Option.some.inj ra]; exact hab
  rw [hm l' hp hs'] at e1
  exact e1.symm
section
variable {P:Program}{β α:Type}{m:List α→Option β}{Φ:β→Prop}{ops rest:List Oper}{K:AS→Prop}{E:AV→List Obj→Prop}{n d F g k sz len:Nat}{o:List (Nat × AV)}{objs:List Obj}{ty:TypeId}{pos:String}{af:Array Edge}{cal x y:Operand}{at':Array TypeId}{c:α→List D}{l:List α}{f:α→α→Option Int}
theorem Q7 (hc:evo n o cal=.fn F [] []) (hx:evo n o x=.bsl k 0 len) (hy:evo n o y=.fn g [] []) (ho:objs[k]?=some (.box (bL (l.map c)))) (hln:len=l.length) (hen:aW P F=true)
    {one:Bool} (hone:one=true→sz=1) (hs:CF P F g sz one) (hs0:DD P F g) (h0:0 < sz) (hz:∀ r,(c r).length=sz) (hinj:∀ p q,c p=c q→p=q) (hf:∀ p q r,f p q=some r→Fun P g [Cr one (c p),Cr one (c q)] (vI r) [])
    (h:∀ l':List α,l.length=l'.length→H (m l') Φ (rg .p P ops rest (st n (oc d (.tup []) o) (objs.set k (.box (bL (l'.map c))))) K E)) :
    H (CM f l m) Φ (rg .p P ops (⟨some d,.call ⟨.value cal,#[x,y],at'⟩,ty,pos,af,none⟩ :: rest) (st n o objs) K E):=by
  intro z hz' hp
  obtain ⟨cf,hok,hm⟩:=L3 hz'
  unfold rg; dsimp only; unfold cQ dX aop; dsimp only [List.map,Array.toList]
  rw [aX,aX,aX,hc,hx,hy]
  dsimp only
  have hrows:∀ r ∈ l.map c,r.length=sz:=by intro r hr; obtain ⟨p,_,rfl⟩:=List.mem_map.1 hr; exact hz p
  classical
  let dec:List D→Option α:=fun r=>if h:∃ p,c p=r then some (Classical.choose h) else none
  have hdec:∀ p,dec (c p)=some p:=by
    intro p
    have he:∃ q,c q=c p:=⟨p,rfl⟩
    show (if h:∃ q,c q=c p then some (Classical.choose h) else none)=some p
    rw [dif_pos he,hinj _ _ (Classical.choose_spec he)]
  let cf':List D→List D→Int:=fun r s=>match dec r,dec s with | some p,some q=>cf p q | _,_=>0
  have hcf:∀ p q,cf' (c p) (c q)=cf p q:=by intro p q; show (match dec (c p),dec (c q) with | some p,some q=>cf p q | _,_=>0)=_; rw [hdec,hdec]
  have hcall:=Mk (P:=P) (f:=F) (g:=g) (k:=sz) hone hs hs0 h0 ho hrows cf'
    (by intro r hr; obtain ⟨p,hp',rfl⟩:=List.mem_map.1 hr; rw [hcf]; exact hok.irr p hp')
    (by intro r hr s hs t ht; obtain ⟨p,hp',rfl⟩:=List.mem_map.1 hr; obtain ⟨q,hq',rfl⟩:=List.mem_map.1 hs; obtain ⟨u,hu',rfl⟩:=List.mem_map.1 ht; rw [hcf,hcf,hcf]; exact hok.tr p hp' q hq' u hu')
    (by intro r hr s hs t ht; obtain ⟨p,hp',rfl⟩:=List.mem_map.1 hr; obtain ⟨q,hq',rfl⟩:=List.mem_map.1 hs; obtain ⟨u,hu',rfl⟩:=List.mem_map.1 ht; rw [hcf,hcf,hcf]; exact hok.ntr p hp' q hq' u hu')
    (by intro r hr s hs; obtain ⟨p,hp',rfl⟩:=List.mem_map.1 hr; obtain ⟨q,hq',rfl⟩:=List.mem_map.1 hs; exact ⟨[],by rw [hcf]; exact hf p q _ (hok.run p hp' q hq')⟩)
    (by rw [List.length_map]; exact hok.big)
  refine ⟨hen,?_⟩
  have e:([] ++ [AV.bsl k 0 len,AV.fn g [] []] ++ []:List AV)=[.bsl k 0 (l.map c).length,.fn g [] []]:=by rw [List.length_map,hln]; rfl
  rw [e]
  refine dM.mono hcall ?_
  rintro ae o' ⟨rfl,rows',hpm,hsr,rfl⟩
  show rg .p P ops rest _ K E
  have hrw:∃ l':List α,rows'=l'.map c:=by
    have:∀ r ∈ rows',∃ p,c p=r:=by intro r hr; obtain ⟨p,_,rfl⟩:=List.mem_map.1 (hpm.mem_iff.1 hr); exact ⟨p,rfl⟩
    clear hpm hsr
    induction rows' with
    | nil=>exact ⟨[],rfl⟩
    | cons r rs ih=>
      obtain ⟨l1,h1⟩:=ih fun r hr=>this r (List.mem_cons_of_mem _ hr)
      obtain ⟨p,hp'⟩:=this r List.mem_cons_self
      exact ⟨p :: l1,by simp [h1,hp']⟩
  obtain ⟨l',rfl⟩:=hrw
  have hpl:l'.Perm l:=by
    have h1:=hpm.map dec
    rw [List.map_map,List.map_map] at h1
    have e1:∀ q:List α,q.map (dec ∘ c)=q.map some:=fun q=>List.map_congr_left fun p _=>hdec p
    rw [e1,e1] at h1
    have h2:=h1.filterMap id
    simpa using h2
  refine h l' hpl.length_eq.symm z (hm l' hpl ?_) hp
  rw [List.pairwise_map] at hsr
  exact hsr.imp fun {a b} hab=>by rw [hcf] at hab; exact hab
end
/-! ### rows that are written in place -/
def nD (k d:Nat) (o:List (Nat × AV)):List (Nat × AV):=o.map fun e=>(e.1,if e.1=d then e.2 else bif e.2.idsLt k then e.2 else .any)
theorem tL (k d:Nat):∀ (o:List (Nat × AV)) (t:Nat),og (nD k d o) t=if t=d then og o t else bif (og o t).idsLt k then og o t else .any
  | [],t=>by simp [nD,og,AV.idsLt]
  | (e,x) :: r,t=>by
    have ih:=tL k d r t
    simp only [nD,List.map_cons,og] at ih ⊢
    by_cases h:e=t
    · subst h; simp only [if_true]
    · simp only [if_neg h]; exact ih
theorem SN {n0 n:Nat}{o o':List (Nat × AV)}{objs:List Obj} (h:∀ t,(og o t).le (og o' t)):b6 n0 (st n o objs) (st n o' objs) :=
  b6.le (s:=st n o objs) (Au (by rw [fQ,fQ]) fun i x y hx hy=>by
    have hi:i < n:=by have:=(List.getElem?_eq_some_iff.1 hx).1; rwa [fQ] at this
    rw [mN n _ i hi] at hx hy
    cases hx; cases hy
    exact h i)
theorem J3 {n0 n k d:Nat}{o:List (Nat × AV)}{objs:List Obj}:b6 n0 (st n o objs) (st n (nD k d o) objs):=by
  refine SN fun t=>?_
  rw [tL]
  split
  · exact AV.le_refl _
  · cases (og o t).idsLt k
    · exact AV.le_any _
    · exact AV.le_refl _
theorem Fi {k d:Nat} (n:Nat) (o:List (Nat × AV)):AV.idsLtL k ((ov n (nD k d o)).set d .any)=true:=by
  refine Cj fun i x hx=>?_
  rw [List.getElem?_set] at hx
  by_cases hd:d=i
  · subst hd
    simp only [if_true] at hx
    split at hx
    · cases hx; rfl
    · cases hx
  · rw [if_neg hd] at hx
    have hi:i < n:=by have:=(List.getElem?_eq_some_iff.1 hx).1; rwa [fQ] at this
    rw [mN n _ i hi,tL,if_neg (fun h=>hd h.symm)] at hx
    cases hx
    cases hq:(og o i).idsLt k
    · rfl
    · exact hq
theorem RK (x:Obj):[x]=[] ++ [x]:=rfl
theorem RO (a x:Obj):[a,x]=[a] ++ [x]:=rfl
theorem R6 (a b x:Obj):[a,b,x]=[a,b] ++ [x]:=rfl
theorem R1 (a b c x:Obj):[a,b,c,x]=[a,b,c] ++ [x]:=rfl
theorem RN (a b c d x:Obj):[a,b,c,d,x]=[a,b,c,d] ++ [x]:=rfl
theorem QX (a b c d e x:Obj):[a,b,c,d,e,x]=[a,b,c,d,e] ++ [x]:=rfl
def IH {β:Type} (_d:Nat) (m:Option β):Option β:=m
def LN {β:Type} (_d:Nat) (m:Option β):Option β:=m
section
variable {P:Program}{n0 n d k m' sz e:Nat}{Q:AX→AS→Prop}{β α:Type}{m:Option β}{Φ:β→Prop}{o:List (Nat × AV)}{objs pre:List Obj}{next:AS→Prop}{c:α→List D}{l:List α}
theorem Qf (hd:d < n) (hk:pre.length=k) (ho:objs=pre ++ [.tok m' sz e true]) (h:og o d=.sl (l.map c) (.own k)) (hm:m'=l.length) (hn:n0≤pre.length) (h2:cG pre.length pre=true)
    (hr:H m Φ (rQ n0 next Q .normal (st n (oc d (.bsl k 0 l.length) (nD k d o)) (pre ++ [.box (bL (l.map c))])))):H (IH d m) Φ (rQ n0 next Q .normal (st n o objs)):=by
  intro y hy hp
  subst hk; subst ho; subst hm
  refine pH.pre (J3 (k:=pre.length) (d:=d)) (pH.pre ?_ (hr y hy hp))
  have hg:og (nD pre.length d o) d=.sl (l.map c) (.own pre.length):=by rw [tL,if_pos rfl]; exact h
  have:=b6.unbox (n0:=n0) (tmps:=ov n (nD pre.length d o)) (objs:=pre) d (rows:=l.map c) (n:=l.length) (sz:=sz) (e:=e) (by rw [mN n _ d hd,hg]) (List.length_map ..) hn (Fi n o) h2
  exact this
theorem RC {m':Nat} (hd:d < n) (hk:pre.length=k) (ho:objs=pre ++ [.box (bL (l.map c))]) (h:og o d=.bsl k 0 m') (hm:m'=l.length) (hz:∀ r r',(c r).length=(c r').length) (hn:n0≤pre.length) (h2:cG pre.length pre=true)
    (hr:H m Φ (rQ n0 next Q .normal (st n (oc d (.sl (l.map c) .none) (nD k d o)) pre))):H (LN d m) Φ (rQ n0 next Q .normal (st n o objs)):=by
  intro y hy hp
  subst hk; subst ho; subst hm
  refine pH.pre (J3 (k:=pre.length) (d:=d)) (pH.pre ?_ (hr y hy hp))
  have hg:og (nD pre.length d o) d=.bsl pre.length 0 l.length:=by rw [tL,if_pos rfl]; exact h
  have hs:∃ sz,∀ r ∈ l.map c,r.length=sz:=by
    cases l with
    | nil=>exact ⟨0,by simp⟩
    | cons a l=>exact ⟨(c a).length,fun r hr=>by obtain ⟨p,_,rfl⟩:=List.mem_map.1 hr; exact hz p a⟩
  obtain ⟨sz,hs⟩:=hs
  have:=b6.pubbox (n0:=n0) (tmps:=ov n (nD pre.length d o)) (objs:=pre) d (rows:=l.map c) (n:=l.length) (sz:=sz) (by rw [mN n _ d hd,hg]) (List.length_map ..) hs hn (Fi n o) h2
  exact this
end
/-! ### rows that are shared from now on, and still one's own -/
section
variable {P:Program}{n0 n k i:Nat}{I:Nat→AS→Prop}{Q:AX→AS→Prop}{E:AV→List Obj→Prop}{β:Type}{m:Option β}{Φ:β→Prop}{o:List (Nat × AV)}{objs objs':List Obj}{next:AS→Prop}{c:Code}
end
end Go.Proofs.YtgkmbhllcekagaaGreatDoor.AM
/- Answers that stand in cells. -/
namespace Go.Proofs.YtgkmbhllcekagaaGreatDoor.AM
open Go
def FP (L:List (Nat × TI)) (n:Nat) (o:List (Nat × AV)) (objs:List Obj):List ResultVar→Option (List AV)
  | []=>some []
  | .tmp t :: rs=>(match FP L n o objs rs with | some xs=>some ((if t < n then og o t else .any) :: xs) | none=>none)
  | .cell a t :: rs=>
    match FP L n o objs rs,kT L t,(if a < n then og o a else .any) with
    | some xs,some i,.ptr k off=>
      (match objs[k]? with
      | some (.box cells)=>if off + i.size≤cells.length then (if i.isAgg then some (.agg ((cells.drop off).take i.size) :: xs) else if i.size=1 then some (cells.getD off .any :: xs) else none) else none
      | _=>none)
    | _,_,_=>none
theorem uU {P:Program}{L:List (Nat × TI)} (hL:∀ e ∈ L,ti P e.1=some e.2) {n:Nat}{o:List (Nat × AV)}{objs:List Obj}:∀ {rs:List ResultVar}{xs:List AV},FP L n o objs rs=some xs→sH P (st n o objs) rs=some xs
  | [],xs,h=>h
  | .tmp t :: rs,xs,h=>by
    simp only [FP] at h
    cases hr:FP L n o objs rs with
    | none=>rw [hr] at h; cases h
    | some ys=>
      rw [hr] at h
      simp only [sH,I9,uU hL hr]
      rw [show ((st n o objs).tmps.getD t .any)=if t < n then og o t else .any from sF n o t]
      exact h
  | .cell a t :: rs,xs,h=>by
    simp only [FP] at h
    split at h
    · rename_i ys i k off hr ht hp
      simp only [sH,I9,uU hL hr]
      rw [show ((st n o objs).tmps.getD a .any)=if a < n then og o a else .any from sF n o a,hp]
      unfold EB
      rw [BH hL ht]
      split at h
      · rename_i cells hob
        simp only [hob]
        split at h
        · rename_i hle
          rw [if_pos hle]
          split at h
          · rename_i hagg
            rw [if_pos hagg]; exact h
          · rename_i hagg
            rw [if_neg hagg]
            split at h
            · rename_i h1
              rw [if_pos h1]; exact h
            · cases h
        · cases h
      · cases h
    · cases h
section
variable {P:Program}{β:Type}{r v:β}{n:Nat}{o:List (Nat × AV)}{objs:List Obj}{rs:List ResultVar}{X:β→AV}{O:β→List Obj}
theorem OV {x0 x1:AV}{xs ys:List AV} (hr:sH P (st n o objs) rs=some (x0 :: x1 :: xs)) (hX:X v=.tup ys) (hx:AV.leL (AV.stripL (x0 :: x1 :: xs)) ys) (h1:AV.idsLtL 0 ys=true) (hO:O v=[]) :
    H (aH v) (fun y=>y=r) (pG P 0 rs (pK X O r) .ret (st n o objs)):=by
  refine Ab ?_
  rintro rfl
  refine ⟨.tup (x0 :: x1 :: xs),by unfold qZ; rw [hr]; rfl,X v,O v,?_,rfl,rfl⟩
  rw [hO,hX]
  intro _ G0 w0 G a w hn hf
  obtain ⟨G',k1,k2,k3⟩:=k9 (x0 :: x1 :: xs) G objs hf.sat.mem
  have hv:=hf.sat.tmps
  have hlen:a.tmps.toList.length=1:=hv.1
  match hal:a.tmps.toList,hlen with
  | [u],_=>
    rw [hal] at hv
    have h0:=hv.2 0 _ u rfl rfl
    cases h0 with
    | tup _ vs hl hc=>
      obtain ⟨q1,q2⟩:=AV.leL_sound hx (k3 vs ⟨hl,hc⟩)
      have hf':d7 G0 w0 G' ⟨[.tup ys],AV.pubL objs (x0 :: x1 :: xs)⟩ a w:=by
        refine ⟨hf.step.trans k1,k2,?_,hf.sat.defers⟩
        rw [hal]
        refine ⟨rfl,fun i x v hx hv=>?_⟩
        cases i with
        | zero=>simp at hx hv; subst hx; subst hv; exact .tup _ vs q1 q2
        | succ i=>simp at hx
      exact b6.gen (n0:=0) (tmps:=[.tup ys]) (tmps':=[.tup ys]) (objs':=[]) ⟨AV.le_refl _,trivial⟩ (AG _) (Nat.zero_le _) (by simp [AV.idsLtL,AV.idsLt,h1]) rfl _ G0 w0 G' a w hn hf'
end
end Go.Proofs.YtgkmbhllcekagaaGreatDoor.AM
/- Rows of one's own that are written by index. -/
namespace Go.Proofs.YtgkmbhllcekagaaGreatDoor.AM
open Go
theorem DJ {rows:List (List D)}{sz i j:Nat}{r:List D} (h:∀ (i:Nat) (r:List D),rows[i]?=some r→r.length=sz) (hr:rows[i]?=some r) (hj:j < sz) :
    (bL rows)[i * sz + j]?=(r[j]?).map .ofD:=by
  have hl:=h i r hr
  have hd:r[j]?=some r[j]:=List.getElem?_eq_getElem (by omega)
  unfold bL
  rw [List.getElem?_map,sY h hr hd,hd]
theorem Dd:∀ (xs cs:List AV) (off q:Nat),off + xs.length≤cs.length→(setFrom cs off xs)[q]?=if off≤q∧q < off + xs.length then xs[q - off]? else cs[q]?
  | [],cs,off,q,_=>by
    simp only [setFrom,List.length_nil,Nat.add_zero]
    rw [if_neg (by omega)]
  | x :: xs,cs,off,q,h=>by
    simp only [List.length_cons] at h
    simp only [setFrom,List.length_cons]
    rw [Dd xs (cs.set off x) (off + 1) q (by rw [List.length_set]; omega)]
    by_cases h1:off=q
    · subst h1
      rw [if_neg (by omega),if_pos (by omega),List.getElem?_set,if_pos rfl,if_pos (by omega)]
      simp
    · by_cases h2:off + 1≤q∧q < off + 1 + xs.length
      · rw [if_pos h2,if_pos (by omega),show q - off=(q - (off + 1)) + 1 from by omega]
        simp
      · rw [if_neg h2,if_neg (by omega),List.getElem?_set,if_neg h1]
theorem Jc {a b:List AV}{n sz:Nat} (ha:a.length=n * sz) (hb:b.length=n * sz) (h:∀ i j,i < n→j < sz→a[i * sz + j]?=b[i * sz + j]?):a=b:=by
  refine List.ext_getElem? fun q=>?_
  rcases Nat.lt_or_ge q (n * sz) with hq | hq
  · have hs:0 < sz:=by
      rcases Nat.eq_zero_or_pos sz with h0 | h0
      · rw [h0] at hq; simp at hq
      · exact h0
    have e:=Nat.div_add_mod q sz
    have h1:q / sz < n:=Nat.div_lt_of_lt_mul (by rw [Nat.mul_comm]; exact hq)
    have:=h (q / sz) (q % sz) h1 (Nat.mod_lt _ hs)
    rw [Nat.mul_comm (q / sz) sz,e] at this
    exact this
  · rw [List.getElem?_eq_none (by omega),List.getElem?_eq_none (by omega)]
section
variable {α:Type}{c:α→List D}{l:List α}{sz:Nat}
theorem CA (hz:∀ r,(c r).length=sz) (i:Nat) (r:List D) (h:(l.map c)[i]?=some r):r.length=sz:=by
  rw [List.getElem?_map] at h
  cases hl:l[i]? with
  | none=>rw [hl] at h; cases h
  | some x=>rw [hl] at h; cases h; exact hz x
theorem qQ (hz:∀ r,(c r).length=sz):(bL (l.map c)).length=l.length * sz:=by
  rw [nI (CA hz),List.length_map]
theorem Na {z:α}{zero:List Value} (hz:∀ r,(c r).length=sz) (h:zero.map AV.v=(c z).map .ofD) (n:Nat):rT zero sz n=bL ((List.replicate n z).map c):=by
  have hl:zero.length=sz:=by have:=congrArg List.length h; simpa [hz] using this
  refine Jc (n:=n) (sz:=sz) (by simp [rT]) (by rw [qQ hz,List.length_replicate]) fun i j hi hj=>?_
  rw [DJ (CA hz) (r:=c z) (by simp [hi]) hj]
  have hlt:i * sz + j < n * sz:=by
    have:=Nat.mul_le_mul_right sz (show i + 1≤n from hi)
    rw [Nat.add_mul] at this; omega
  have hm:(i * sz + j) % sz=j:=by rw [Nat.mul_comm,Nat.mul_add_mod,Nat.mod_eq_of_lt hj]
  unfold rT
  rw [List.getElem?_map,List.getElem?_range hlt,Option.map_some,hm]
  have:=congrArg (fun q:List AV=>q[j]?) h
  simp only [List.getElem?_map] at this
  rw [← this,List.getElem?_eq_getElem (by omega),Option.map_some,List.getD_eq_getElem?_getD,List.getElem?_eq_getElem (by omega),Option.getD_some]
theorem J0 {i:Nat}{x:α} (hz:∀ r,(c r).length=sz) (hi:i < l.length):setFrom (bL (l.map c)) (i * sz) ((c x).map .ofD)=bL ((l.set i x).map c):=by
  have hle:i * sz + sz≤l.length * sz:=by
    have:=Nat.mul_le_mul_right sz (show i + 1≤l.length from hi)
    rw [Nat.add_mul] at this; omega
  refine Jc (n:=l.length) (sz:=sz) (by rw [lO,qQ hz]) (by rw [qQ hz,List.length_set]) fun k j hk hj=>?_
  rw [Dd _ _ _ _ (by rw [qQ hz,List.length_map,hz]; exact hle),List.length_map,hz]
  have hset:((l.set i x).map c)[k]?=some (c (if i=k then x else l[k])):=by
    rw [List.getElem?_map,List.getElem?_set]
    by_cases h:i=k
    · rw [if_pos h,if_pos h,if_pos hi]; rfl
    · rw [if_neg h,if_neg h,List.getElem?_eq_getElem hk]; rfl
  rw [DJ (CA hz) hset hj]
  by_cases h:i=k
  · subst h
    rw [if_pos ⟨by omega,by omega⟩,if_pos rfl,Nat.add_sub_cancel_left,List.getElem?_map]
  · have:¬ (i * sz≤k * sz + j∧k * sz + j < i * sz + sz):=by
      rintro ⟨h1,h2⟩
      rcases Nat.lt_or_gt_of_ne h with h3 | h3
      · have:=Nat.mul_le_mul_right sz (show i + 1≤k from h3)
        rw [Nat.add_mul] at this; omega
      · have:=Nat.mul_le_mul_right sz (show k + 1≤i from h3)
        rw [Nat.add_mul] at this; omega
    rw [if_neg this,if_neg h,DJ (CA hz) (r:=c l[k]) (by simp [hk]) hj]
end
section
variable {P:Program}{n:Nat}{o:List (Nat × AV)}{objs:List Obj}{x y:Operand}{t:TypeId}{α:Type}{c:α→List D}{l:List α}
theorem TM {i j:TI}{e:TypeId}{k:Nat}{m:Int}{z:α} (ht:ti P t=some i) (hd:i.desc=.slice e) (hj:ti P e=some j) (h0:0 < j.size) (hz:∀ r,(c r).length=j.size) (hzz:j.zero.map AV.v=(c z).map .ofD) (hx:evo n o x=.v (.int .i64 m)) (hy:evo n o y=.v (.int .i64 m)) (hm:0≤m∧m≤9223372036854775807∧m.toNat * j.bytes≤281474976710656) (hk:objs.length=k) :
    Eff P (.makeSlice t x y) n o objs (.bsl k 0 m.toNat) (objs ++ [.box (bL ((List.replicate m.toNat z).map c))]):=by
  rw [← Na hz hzz]
  exact TY ht hd hj h0 hx hy hm hk
theorem PT {i:TI}{k q off:Nat}{v:α} (ht:ti P t=some i) (hz:∀ r,(c r).length=i.size) (hx:evo n o x=.ptr k off) (hoff:off=0 + q * i.size) (hq:q < l.length) (hy:hU (evo n o y)=some ((c v).map .ofD)) (ho:objs[k]?=some (.box (bL (l.map c)))) :
    Eff P (.store t x y) n o objs .any (objs.set k (.box (bL ((l.set q v).map c)))):=by
  subst hoff
  have hle:q * i.size + i.size≤l.length * i.size:=by
    have:=Nat.mul_le_mul_right i.size (show q + 1≤l.length from hq)
    rw [Nat.add_mul] at this; omega
  refine Lu ht hx hy ho (by rw [List.length_map,hz]) (Nat.ble_eq_true_of_le ?_) ?_
  · rw [List.length_map,hz,qQ hz]; omega
  · rw [Nat.zero_add]; exact J0 hz hq
end
end Go.Proofs.YtgkmbhllcekagaaGreatDoor.AM
/- Maps: entries taken away, and how many there are. -/
namespace Go.Proofs.YtgkmbhllcekagaaGreatDoor.AM
open Go
section
variable {P:Program}{n:Nat}{o:List (Nat × AV)}{objs objs':List Obj}{x y:Operand}{t t2:TypeId}
variable {κ α:Type} [DecidableEq κ] {kv:κ→Value}{av:α→AV}{es:List (κ × α)}{i ki:TI}{kt et:TypeId}{k:Nat}{key:κ}{d:TypeDesc}
theorem K5 (h:rI kv d) (k:κ):∀ es:List (κ × α),B3 (mp kv av es) (kv k)=mp kv av (mdl es k)
  | []=>rfl
  | (a,y) :: es=>by
    have ih:=K5 h k es
    simp only [mp,List.map_cons,B3,mdl,h.eq] at ih ⊢
    by_cases hk:k=a
    · simp [hk]
    · simp [hk,ih]
theorem Re (ht:ti P t=some i) (hd:i.desc=.map kt et) (hx:evo n o x=.map k) (ho:objs[k]?=some (.map (mp kv av es))):Val P (.call ⟨.builtin .len,#[x],#[t]⟩) n o objs (.v (.int .i64 (es.length:Int))):=by
  refine ⟨?_⟩; intro p N E hp hN; unfold aop; rw [hp]; dsimp only [List.map,Array.toList]
  rw [aX,hx]; unfold dC; dsimp only; refine Or.inr ?_; unfold p9; rw [ht]; dsimp only; rw [hd,ho]; dsimp only
  rw [show (mp kv av es).length=es.length from List.length_map ..]; exact hN
theorem PD (ht:ti P t=some i) (hd:i.desc=.map kt et) (hk:ti P kt=some ki) (hx:evo n o x=.map k) (ho:objs[k]?=some (.map (mp kv av es))) (hq:rI kv ki.desc) (hy:evo n o y=.v (kv key)) (ho':objs.set k (.map (mp kv av (mdl es key)))=objs') :
    Eff P (.call ⟨.builtin .delete,#[x,y],#[t,t2]⟩) n o objs .any objs':=by
  refine ⟨?_⟩; intro p N E hp hN; unfold aop; rw [hp]; dsimp only [List.map,Array.toList]
  rw [aX,aX,hx,hy]; unfold dC; dsimp only; unfold AB; rw [ht]; dsimp only; rw [hd]; dsimp only; rw [hk]; dsimp only; rw [ho]; dsimp only
  refine ⟨hq.ok key,PP hq es,?_⟩
  rw [K5 hq,ho']; exact hN
end
end Go.Proofs.YtgkmbhllcekagaaGreatDoor.AM
/- Rows written by index, as the models have them. -/
namespace Go.Proofs.YtgkmbhllcekagaaGreatDoor.AM
open Go
theorem IV:∀ xs:List AV,leC xs xs
  | []=>trivial
  | x :: xs=>⟨AV.le_refl x,IV xs⟩
theorem Dv (l:List (List D)):E5 (.box (bL l)) (.box (bL l)):=IV _
theorem j6 (l:List (List D)) (n:Nat):(Obj.box (bL l)).idsLt n=true:=by
  show AV.idsLtL n (l.flatten.map .ofD)=true
  generalize l.flatten=xs
  induction xs with
  | nil=>rfl
  | cons d xs ih=>
    simp only [List.map_cons,AV.idsLtL,ih,Bool.and_true]
    cases d <;> rfl
section
variable {P:Program}{n:Nat}{o:List (Nat × AV)}{objs objs':List Obj}{x y:Operand}{t:TypeId}{α:Type}{c:α→List D}{l:List α}
theorem QR {i j:TI}{e:TypeId}{k:Nat}{m:Int}{z:α} (ht:ti P t=some i) (hd:i.desc=.slice e) (hj:ti P e=some j) (h0:0 < j.size) (hx:evo n o x=.v (.int .i64 m)) (hy:evo n o y=.v (.int .i64 m)) (hk:objs.length=k)
    (ho:objs ++ [.box (bL ((List.replicate m.toNat z).map c))]=objs') (hz:∀ r,(c r).length=j.size) (hzz:j.zero.map AV.v=(c z).map .ofD) (hm:0≤m∧m≤9223372036854775807∧m.toNat * j.bytes≤281474976710656) :
    Eff P (.makeSlice t x y) n o objs (.bsl k 0 (List.replicate m.toNat z).length) objs':=by
  subst ho
  rw [List.length_replicate]
  exact TM ht hd hj h0 hz hzz hx hy hm hk
theorem OK {i:TI}{k q:Nat}{v:α} (ht:ti P t=some i) (hx:evo n o x=.ptr k (0 + q * i.size)) (ho:objs[k]?=some (.box (bL (l.map c)))) (hy:hU (evo n o y)=some ((c v).map .ofD)) (ho':objs.set k (.box (bL ((l.set q v).map c)))=objs') (hz:∀ r,(c r).length=i.size) (hq:q < l.length) :
    Eff P (.store t x y) n o objs .any objs':=by
  subst ho'
  exact PT ht hz hx rfl hq hy ho
end
end Go.Proofs.YtgkmbhllcekagaaGreatDoor.AM
/- Contracts of functions that are handed objects: pointers, maps; and how they are called where these objects lie elsewhere. -/
namespace Go.Proofs.YtgkmbhllcekagaaGreatDoor.AM
open Go
/-! ### Objects told under other numbers -/
theorem sE {f:Nat→Nat}:∀ {xs:List AV}{i:Nat}{x:AV},xs[i]?=some x→(AV.renL f xs)[i]?=some (x.ren f)
  | [],i,x,h=>by simp at h
  | y :: xs,0,x,h=>by simp at h; subst h; rfl
  | y :: xs,i + 1,x,h=>by simp only [AV.renL,List.getElem?_cons_succ] at h ⊢; exact sE h
section
variable {G G':aL}{f:Nat→Nat}{n:Nat} (hb:∀ (o:Nat) g,o < n→G.bl[f o]?=some g→G'.bl[o]?=some g) (hi:G'.imm=G.imm)
include hb hi
theorem JE {t:Tk} (ht:t.idsLt n=true) {b off:Nat} (h:G.im (t.ren f) b off):G'.im t b off:=by
  cases t with
  | none=>show G'.imm b off; rw [hi]; exact h
  | exact=>show G'.imm b off; rw [hi]; exact h
  | own o=>
    simp only [Tk.idsLt,decide_eq_true_eq] at ht
    rcases h with h | ⟨l,c,s,h1,h2⟩
    · exact .inl (by rw [hi]; exact h)
    · exact .inr ⟨l,c,s,hb o _ ht h1,h2⟩
theorem aO.unren {w:World}{y:AV}{v:Value} (h:aO G w y v):∀ x:AV,x.ren f=y→x.idsLt n=true→aO G' w x v:=by
  have imx:∀ b off,G.imm b off→G'.imm b off:=fun b off h=>by rw [hi]; exact h
  induction h with
  | v y hy=>intro x e _; cases x <;> simp [AV.ren] at e; subst e; exact .v _ hy
  | any v=>intro x e _; cases x <;> simp [AV.ren] at e; exact .any _
  | cnd g y v _ h' ih=>
    intro x e hx
    cases x <;> simp [AV.ren] at e
    obtain ⟨rfl,rfl⟩:=e
    exact .cnd _ _ _ (fun hg=>ih hg _ rfl (by simpa [AV.idsLt] using hx)) h'
  | sl rows t v hd ht=>
    intro x e hx
    cases x <;> simp [AV.ren] at e
    rename_i rows' t'
    obtain ⟨rfl,rfl⟩:=e
    simp only [AV.idsLt] at hx
    refine .sl _ _ v (hd.mono (fun _ _ _=>rfl) (fun b off h=>JE hb hi hx h) (fun _ _ _=>rfl) imx) ?_
    cases t' with
    | none=>trivial
    | exact=>exact ht
    | own o=>
      simp only [Tk.idsLt,decide_eq_true_eq] at hx
      rcases ht with ⟨l,h1,h2⟩ | ⟨b,l,c,sz,ex,h1,h2⟩
      · exact .inl ⟨l,hb o _ hx h1,h2⟩
      · exact .inr ⟨b,l,c,sz,ex,hb o _ hx h1,h2⟩
  | agg cs vs hl h1 _ ih=>
    intro x e hx
    cases x <;> simp [AV.ren] at e
    subst e
    refine .agg _ vs (by rw [hl,eL]) h1 (fun i c v hc hv=>?_)
    refine ih i (c.ren f) v ?_ hv c rfl (dA (by simpa [AV.idsLt] using hx) i c hc)
    exact sE hc
  | tup cs vs hl _ ih=>
    intro x e hx
    cases x <;> simp [AV.ren] at e
    subst e
    refine .tup _ vs (by rw [hl,eL]) (fun i c v hc hv=>?_)
    refine ih i (c.ren f) v ?_ hv c rfl (dA (by simpa [AV.idsLt] using hx) i c hc)
    exact sE hc
  | ptr o off b h=>
    intro x e hx
    cases x <;> simp [AV.ren] at e
    obtain ⟨rfl,rfl⟩:=e
    exact .ptr _ _ b (hb _ _ (by simpa [AV.idsLt] using hx) h)
  | ep rows i off t b st sz h c ht=>
    intro x e hx
    cases x <;> simp [AV.ren] at e
    obtain ⟨rfl,rfl,rfl,rfl⟩:=e
    simp only [AV.idsLt] at hx
    refine .ep _ _ _ _ b st sz (h.mono (fun _ _ _=>rfl) (fun b off h=>JE hb hi hx h) (fun _ _ _=>rfl) imx) c ?_
    rename_i t'
    cases t' with
    | none=>trivial
    | exact=>exact ht
    | own o=>
      simp only [Tk.idsLt,decide_eq_true_eq] at hx
      rcases ht with ⟨l,h1,h2⟩ | ⟨b,l,c,sz,ex,h1,h2⟩
      · exact .inl ⟨l,hb o _ hx h1,h2⟩
      · exact .inr ⟨b,l,c,sz,ex,hb o _ hx h1,h2⟩
  | bsl o off len cap b h h1 h2=>
    intro x e hx
    cases x <;> simp [AV.ren] at e
    obtain ⟨rfl,rfl,rfl⟩:=e
    exact .bsl _ _ _ cap b (hb _ _ (by simpa [AV.idsLt] using hx) h) h1 h2
  | bsl0 o off cap a h2=>
    intro x e hx
    cases x <;> simp [AV.ren] at e
    obtain ⟨rfl,rfl,rfl⟩:=e
    exact .bsl0 _ _ cap a h2
  | map o b h=>
    intro x e hx
    cases x <;> simp [AV.ren] at e
    subst e
    exact .map _ b (hb _ _ (by simpa [AV.idsLt] using hx) h)
  | fn g first cap vf vc h1 h2 _ _ ih1 ih2=>
    intro x e hx
    cases x <;> simp [AV.ren] at e
    obtain ⟨rfl,rfl,rfl⟩:=e
    simp only [AV.idsLt,Bool.and_eq_true] at hx
    exact .fn _ _ _ vf vc (by rw [h1,eL]) (by rw [h2,eL])
      (fun i c v hc hv=>ih1 i (c.ren f) v (sE hc) hv c rfl (dA hx.1 i c hc))
      (fun i c v hc hv=>ih2 i (c.ren f) v (sE hc) hv c rfl (dA hx.2 i c hc))
theorem g9.unren {w:World}{g:GB}{x:Obj} (h:g9 G w g (x.ren f)) (hx:x.idsLt n=true):g9 G' w g x:=by
  cases x with
  | box cs=>
    rcases h with ⟨hz,l,hl⟩ | ⟨b,c,e,e1,e2,e3,e4,e5⟩
    · refine .inl ⟨?_,l,hl⟩
      have:=congrArg List.length hz
      rw [eL] at this
      exact List.eq_nil_of_length_eq_zero this
    · refine .inr ⟨b,c,e,e1,e2,by rw [eL] at e3; exact e3,fun j z v hz hv=>?_,fun off=>by rw [hi]; exact e5 off⟩
      obtain ⟨q1,q2⟩:=e4 j (z.ren f) v (sE hz) hv
      exact ⟨q1,q2.unren hb hi z rfl (dA (by simpa [Obj.idsLt] using hx) j z hz)⟩
  | tok l sz e ex=>
    rcases h with h | ⟨b,cap,cur,e1,e2,e3,e4,e5,e6,e7⟩
    · exact .inl h
    · exact .inr ⟨b,cap,cur,e1,e2,e3,e4,e5,fun hx off=>by rw [hi]; exact e6 hx off,fun hx off=>by rw [hi]; exact e7 hx off⟩
  | lin v sz e rows=>
    rcases h with h | ⟨b,cap,cur,e1,e2,e3,e4,e5,e6,e7,e8⟩
    · exact .inl h
    · exact .inr ⟨b,cap,cur,e1,e2,e3,e4,e5,e6,fun off=>by rw [hi]; exact e7 off,e8.mono (fun _ _ _=>rfl) (fun _ _ h=>h) (fun _ _ _=>rfl) (fun _ _ h=>by rw [hi]; exact h)⟩
  | map es=>
    obtain ⟨b,ents,clock,e1,e2,e3,e4,e5,e6⟩:=h
    refine ⟨b,ents,clock,e1,e2,by simpa using e3,fun i k y e hk he=>?_,e5,fun off=>by rw [hi]; exact e6 off⟩
    obtain ⟨q1,q2,q3⟩:=e4 i k (y.ren f) e (by rw [List.getElem?_map,hk]; rfl) he
    have hall:es.all (fun e=>e.2.idsLt n)=true:=hx
    exact ⟨q1,q2.unren hb hi y rfl (List.all_eq_true.1 hall _ (List.mem_of_getElem? hk)),q3⟩
  | mapB bs clock es=>
    obtain ⟨b,ents,e1,e2,e3,e4,e5,e7,e6⟩:=h
    refine ⟨b,ents,e1,e2,by simpa using e3,fun i k y e hk he=>?_,e5,e7,fun off=>by rw [hi]; exact e6 off⟩
    obtain ⟨q1,q2,q3⟩:=e4 i k (y.ren f) e (by rw [List.getElem?_map,hk]; rfl) he
    have hall:es.all (fun e=>e.2.idsLt n)=true:=hx
    exact ⟨q1,q2.unren hb hi y rfl (List.all_eq_true.1 hall _ (List.mem_of_getElem? hk)),q3⟩
  | iter m since seen=>
    obtain ⟨b,mb,e1,e2,e3,e4⟩:=h
    exact ⟨b,mb,e1,hb m _ (by simpa [Obj.idsLt] using hx) e2,e3,fun off=>by rw [hi]; exact e4 off⟩
  | siter s pos=>
    obtain ⟨b,e1,e2,e3⟩:=h
    exact ⟨b,e1,e2,fun off=>by rw [hi]; exact e3 off⟩
  | bld e buf=>
    obtain ⟨b,c0,c1,e1,e2,e3,e4,e5,e6⟩:=h
    exact ⟨b,c0,c1,e1,e2,e3,e4,e5.unren hb hi buf rfl (by simpa [Obj.idsLt] using hx),fun off=>by rw [hi]; exact e6 off⟩
  | dead=>exact h
end
/-! ### Lists laid into others -/
def rC {α:Type}:List Nat→List α→List α→List α
  | [],l,_=>l
  | k :: ks,l,x :: xs=>rC ks (l.set k x) xs
  | _ :: _,l,[]=>l
def jG {α:Type} (ks:List Nat) (l l':List α):List α:=rC ks l l' ++ l'.drop ks.length
def rn (ks:List Nat) (n i:Nat):Nat:=match ks[i]? with | some k=>k | none=>n + (i - ks.length)
theorem gD {α:Type}:∀ (ks:List Nat) (l xs:List α),(rC ks l xs).length=l.length
  | [],_,_=>rfl
  | _ :: ks,l,x :: xs=>by simp [rC,gD ks]
  | _ :: _,_,[]=>rfl
theorem rK {α:Type}:∀ (ks:List Nat) (l xs:List α) (o:Nat),o ∉ ks→(rC ks l xs)[o]?=l[o]?
  | [],_,_,_,_=>rfl
  | k :: ks,l,x :: xs,o,h=>by
    simp only [List.mem_cons,not_or] at h
    rw [rC,rK ks _ xs o h.2,List.getElem?_set,if_neg (Ne.symm h.1)]
  | _ :: _,_,[],_,_=>rfl
theorem G6 {α:Type}:∀ (ks:List Nat) (l xs:List α) (i k:Nat) (x:α),ks.Nodup→(∀ k ∈ ks,k < l.length)→ks[i]?=some k→xs[i]?=some x→(rC ks l xs)[k]?=some x
  | [],_,_,i,k,x,_,_,h,_=>by simp at h
  | k0 :: ks,l,[],i,k,x,_,_,_,h=>by simp at h
  | k0 :: ks,l,y :: xs,0,k,x,hn,hl,h1,h2=>by
    simp at h1 h2
    subst h1; subst h2
    rw [rC,rK ks _ xs _ (List.nodup_cons.1 hn).1,List.getElem?_set,if_pos rfl,if_pos (hl _ (by simp))]
  | k0 :: ks,l,y :: xs,i + 1,k,x,hn,hl,h1,h2=>by
    rw [rC]
    exact G6 ks _ xs i k x (List.nodup_cons.1 hn).2 (fun k hk=>by rw [List.length_set]; exact hl k (by simp [hk])) (by simpa using h1) (by simpa using h2)
theorem BB {α:Type}{ks:List Nat}{l l':List α} (hn:ks.Nodup) (hl:∀ k ∈ ks,k < l.length) {i:Nat}{x:α} (h:l'[i]?=some x):(jG ks l l')[rn ks l.length i]?=some x:=by
  unfold jG rn
  cases hk:ks[i]? with
  | some k=>
    have hkl:k < l.length:=hl k (List.mem_of_getElem? hk)
    simp only
    rw [List.getElem?_append_left (by rw [gD]; exact hkl)]
    exact G6 ks l l' i k x hn hl hk h
  | none=>
    simp only
    have hi:ks.length≤i:=by
      rcases Nat.lt_or_ge i ks.length with h' | h'
      · rw [List.getElem?_eq_getElem h'] at hk; cases hk
      · exact h'
    rw [List.getElem?_append_right (by rw [gD]; omega),gD,List.getElem?_drop,show ks.length + (l.length + (i - ks.length) - l.length)=i from by omega]
    exact h
theorem Ka {α:Type}{ks:List Nat}{l l':List α} (hn:ks.Nodup) (hl:∀ k ∈ ks,k < l.length) (hle:ks.length≤l'.length) {o:Nat}{x:α} (h:(jG ks l l')[o]?=some x) :
    (o ∉ ks∧o < l.length∧l[o]?=some x) ∨ ∃ i,o=rn ks l.length i∧l'[i]?=some x:=by
  by_cases ho:o ∈ ks
  · right
    obtain ⟨i,hi⟩:=List.getElem?_of_mem ho
    have hil:i < ks.length:=(List.getElem?_eq_some_iff.1 hi).1
    have hx:l'[i]?=some (l'[i]'(by omega)):=List.getElem?_eq_getElem (by omega)
    have hrn:rn ks l.length i=o:=by simp [rn,hi]
    have:=BB hn hl hx
    rw [hrn,h] at this
    cases this
    exact ⟨i,hrn.symm,hx⟩
  · rcases Nat.lt_or_ge o l.length with h' | h'
    · left
      refine ⟨ho,h',?_⟩
      unfold jG at h
      rw [List.getElem?_append_left (by rw [gD]; exact h'),rK ks l l' o ho] at h
      exact h
    · right
      unfold jG at h
      rw [List.getElem?_append_right (by rw [gD]; exact h'),gD,List.getElem?_drop] at h
      refine ⟨ks.length + (o - l.length),?_,h⟩
      have:ks[ks.length + (o - l.length)]?=none:=List.getElem?_eq_none (by omega)
      simp only [rn,this]
      omega
theorem En {α:Type}{ks:List Nat}{l l':List α}{o:Nat} (ho:o ∉ ks) (h:o < l.length):(jG ks l l')[o]?=l[o]?:=by
  unfold jG
  rw [List.getElem?_append_left (by rw [gD]; exact h),rK ks l l' o ho]
theorem Hl {α:Type} (ks:List Nat) (l l':List α):(jG ks l l').length=l.length + (l'.length - ks.length):=by
  simp [jG,gD]
def kC.ren (f:Nat→Nat):kC→kC
  | .ret x=>.ret (x.ren f)
  | .pan x=>.pan (x.ren f)
theorem dM.frameR {P:Program}{f:Nat}{args:List AV}{oin:List Obj}{R:kC→List Obj→Prop} (h:dM P f args oin R) (hRl:∀ ae o,R ae o→oin.length≤o.length) (ks:List Nat) (objs:List Obj) (hn:ks.Nodup) (hl:∀ k ∈ ks,k < objs.length) (hlen:ks.length=oin.length)
    (hob:∀ (i k:Nat) (x:Obj),ks[i]?=some k→oin[i]?=some x→objs[k]?=some (x.ren (rn ks objs.length))) (ha:AV.idsLtL oin.length args=true) (hbel:cG oin.length oin=true) :
    dM P f (AV.renL (rn ks objs.length) args) objs (fun ae o=>∃ ae0 o0,R ae0 o0∧ae=ae0.ren (rn ks objs.length)∧o=jG ks objs (o0.map (Obj.ren (rn ks objs.length)))):=by
  intro G w vs hm hc
  have hrn:∀ i,i < ks.length→∃ k,ks[i]?=some k∧rn ks objs.length i=k:=fun i hi=>⟨ks[i],List.getElem?_eq_getElem hi,by simp [rn,List.getElem?_eq_getElem hi]⟩
  let bs:List GB:=ks.map fun k=>G.bl.getD k (.full 0)
  have hbs:∀ (i k:Nat),ks[i]?=some k→bs[i]?=G.bl[k]?:=by
    intro i k hk
    have hkl:=hl k (List.mem_of_getElem? hk)
    rw [← hm.len] at hkl
    simp only [bs,List.getElem?_map,hk,Option.map_some,List.getD_eq_getElem?_getD,List.getElem?_eq_getElem hkl,Option.getD_some]
  have hb:∀ (o:Nat) g,o < oin.length→G.bl[rn ks objs.length o]?=some g→bs[o]?=some g:=by
    intro o g ho hg
    obtain ⟨k,hk,hr⟩:=hrn o (by omega)
    rw [hr] at hg
    rw [hbs o k hk]; exact hg
  have hbl:bs.length=oin.length:=by simp [bs,hlen]
  have hsub:∀ (i:Nat) (g:GB),bs[i]?=some g→∃ k,ks[i]?=some k∧G.bl[k]?=some g:=by
    intro i g hg
    have hi:i < bs.length:=(List.getElem?_eq_some_iff.1 hg).1
    obtain ⟨k,hk,_⟩:=hrn i (by omega)
    exact ⟨k,hk,by rw [← hbs i k hk]; exact hg⟩
  have hnd:∀ (i j k:Nat),ks[i]?=some k→ks[j]?=some k→i=j:=by
    intro i j k h1 h2
    have hi:=(List.getElem?_eq_some_iff.1 h1)
    have hj:=(List.getElem?_eq_some_iff.1 h2)
    obtain ⟨hi1,hi2⟩:=hi
    obtain ⟨hj1,hj2⟩:=hj
    have hp:=List.pairwise_iff_getElem.1 hn
    rcases Nat.lt_trichotomy i j with h | h | h
    · exact absurd (hi2.trans hj2.symm) (hp i j hi1 hj1 h)
    · exact h
    · exact absurd (hj2.trans hi2.symm) (hp j i hj1 hi1 h)
  have hm0:Mem ⟨bs,G.imm⟩ oin w:=by
    refine ⟨hbl,?_,?_,?_,hm.immLt⟩
    · intro o x g hx hg
      obtain ⟨k,hk,hgk⟩:=hsub o g hg
      have hox:o < oin.length:=(List.getElem?_eq_some_iff.1 hx).1
      exact (hm.ok k _ g (hob o k x hk hx) hgk).unren (G':=⟨bs,G.imm⟩) hb rfl (pQ hbel o x hx)
    · intro o o' g g' b h1 h2 e1 e2
      obtain ⟨k,hk,hgk⟩:=hsub o g h1
      obtain ⟨k',hk',hgk'⟩:=hsub o' g' h2
      have:=hm.inj k k' g g' b hgk hgk' e1 e2
      subst this
      exact hnd o o' k hk hk'
    · intro o g b h1 e1
      obtain ⟨k,hk,hgk⟩:=hsub o g h1
      exact hm.lt k g b hgk e1
  have hc0:cH ⟨bs,G.imm⟩ w args vs:=⟨by rw [hc.1,eL],fun i x v hx hv=>(hc.2 i _ v (sE hx) hv).unren (G':=⟨bs,G.imm⟩) hb rfl x rfl (dA ha i x hx)⟩
  refine (h ⟨bs,G.imm⟩ w vs hm0 hc0).mono ?_
  rintro e w' ⟨ae0,o0,G',hR,hm',hst,hend⟩
  have hl':ks.length≤G'.bl.length:=by rw [hm'.len,hlen]; exact hRl _ _ hR
  have hlG:∀ k ∈ ks,k < G.bl.length:=fun k hk=>by rw [hm.len]; exact hl k hk
  let G2:aL:=⟨jG ks G.bl G'.bl,G'.imm⟩
  have hlenG:objs.length=G.bl.length:=hm.len.symm
  have hnew:∀ (o:Nat) g,G'.bl[o]?=some g→G2.bl[rn ks objs.length o]?=some g:=fun o g hg=>by rw [hlenG]; exact BB hn hlG hg
  have hold:∀ (o:Nat),o ∉ ks→o < G.bl.length→G2.bl[o]?=G.bl[o]?:=fun o h1 h2=>En h1 h2
  have hpart:∀ (o:Nat) (g:GB),G2.bl[o]?=some g→(o ∉ ks∧o < G.bl.length∧G.bl[o]?=some g) ∨ ∃ i,o=rn ks objs.length i∧G'.bl[i]?=some g:=fun o g hg=>by
    rw [hlenG]; exact Ka hn hlG hl' hg
  -- blocks of the objects that stay aside are as they were
  have haside:∀ (o:Nat) (g:GB) (b:Nat),o ∉ ks→G.bl[o]?=some g→g.blk=some b→w'.heap[b]?=w.heap[b]?:=by
    intro o g b ho hg hbk
    refine hst.heap b (hm.lt o g b hg hbk) ?_
    intro i g' hg' hbk'
    obtain ⟨k,hk,hgk⟩:=hsub i g' hg'
    have:=hm.inj o k g g' b hg hgk hbk hbk'
    subst this
    exact ho (List.mem_of_getElem? hk)
  have himmold:∀ (o:Nat) (g:GB) (b:Nat),o ∉ ks→G.bl[o]?=some g→g.blk=some b→∀ off,G'.imm b off→G.imm b off:=by
    intro o g b ho hg hbk off hi
    rcases hst.imm2 b off hi with h | h | ⟨i,g',h1,h2⟩
    · exact h
    · have:=hm.lt o g b hg hbk; omega
    · obtain ⟨k,hk,hgk⟩:=hsub i g' h1
      have:=hm.inj o k g g' b hg hgk hbk h2
      subst this
      exact absurd (List.mem_of_getElem? hk) ho
  have him:∀ t b off,G.im t b off→w'.cell? ⟨b,off,none⟩=w.cell? ⟨b,off,none⟩∧G2.im t b off:=by
    intro t b off hi
    rcases iL hi with hi0 | ⟨o,l,c,sz,rfl,h1,h2⟩
    · exact ⟨hst.ext.cells .none b off hi0,G2.imm_im t (hst.ext.im .none b off hi0)⟩
    · by_cases ho:o ∈ ks
      · obtain ⟨i,hi⟩:=List.getElem?_of_mem ho
        have hg:bs[i]?=some (.tok b l c sz true):=by rw [hbs i o hi]; exact h1
        have hin:aL.im ⟨bs,G.imm⟩ (.own i) b off:=.inr ⟨l,c,sz,hg,h2⟩
        refine ⟨hst.ext.cells (.own i) b off hin,?_⟩
        have hr:rn ks objs.length i=o:=by simp [rn,hi]
        rcases hst.ext.im (.own i) b off hin with k1 | ⟨l',c',sz',k1,k2⟩
        · exact .inl k1
        · exact .inr ⟨l',c',sz',by rw [← hr]; exact hnew i _ k1,k2⟩
      · have hol:o < G.bl.length:=(List.getElem?_eq_some_iff.1 h1).1
        exact ⟨eK (haside o _ b ho h1 rfl) off,.inr ⟨l,c,sz,by rw [hold o ho hol]; exact h1,h2⟩⟩
  have hext:Ext G w G2 w':=by
    refine ⟨fun t b off hi=>(him t b off hi).1,fun t b off hi=>(him t b off hi).2,?_,?_,?_⟩
    · intro o b ho
      by_cases hk:o ∈ ks
      · obtain ⟨i,hi⟩:=List.getElem?_of_mem hk
        have hr:rn ks objs.length i=o:=by simp [rn,hi]
        rw [← hr]
        exact hnew i _ (hst.ext.obj i b (by rw [hbs i o hi]; exact ho))
      · rw [hold o hk (List.getElem?_eq_some_iff.1 ho).1]; exact ho
    · intro o l ho
      by_cases hk:o ∈ ks
      · obtain ⟨i,hi⟩:=List.getElem?_of_mem hk
        have hr:rn ks objs.length i=o:=by simp [rn,hi]
        rw [← hr]
        rcases hst.ext.full i l (by rw [hbs i o hi]; exact ho) with h | ⟨b,l',c,sz,ex,h1,h2⟩
        · exact .inl (hnew i _ h)
        · exact .inr ⟨b,l',c,sz,ex,hnew i _ h1,h2⟩
      · exact .inl (by rw [hold o hk (List.getElem?_eq_some_iff.1 ho).1]; exact ho)
    · intro o b l c sz ex ho
      by_cases hk:o ∈ ks
      · obtain ⟨i,hi⟩:=List.getElem?_of_mem hk
        have hr:rn ks objs.length i=o:=by simp [rn,hi]
        rw [← hr]
        obtain ⟨b',l',c',sz',ex',h1,h2⟩:=hst.ext.tok i b l c sz ex (by rw [hbs i o hi]; exact ho)
        exact ⟨b',l',c',sz',ex',hnew i _ h1,h2⟩
      · exact ⟨b,l,c,sz,ex,by rw [hold o hk (List.getElem?_eq_some_iff.1 ho).1]; exact ho,.inr ⟨rfl,rfl,rfl⟩⟩
  have hblk:∀ (i:Nat) (g:GB) (b:Nat),G'.bl[i]?=some g→g.blk=some b→w.heap.size≤b ∨ ∃ k,k ∈ ks∧∃ g',G.bl[k]?=some g'∧g'.blk=some b:=by
    intro i g b hg hbk
    rcases hst.blk i g b hg hbk with h | ⟨j,g',h1,h2⟩
    · exact .inl h
    · obtain ⟨k,hk,hgk⟩:=hsub j g' h1
      exact .inr ⟨k,List.mem_of_getElem? hk,g',hgk,h2⟩
  refine ⟨ae0.ren (rn ks objs.length),jG ks objs (o0.map (Obj.ren (rn ks objs.length))),G2,⟨ae0,o0,hR,rfl,rfl⟩,?_,?_,?_⟩
  · refine ⟨by simp [G2,Hl,hm.len,hm'.len],?_,?_,?_,hm'.immLt⟩
    · intro o x g hx hg
      have hl2:ks.length≤(o0.map (Obj.ren (rn ks objs.length))).length:=by rw [List.length_map,← hm'.len]; exact hl'
      rcases hpart o g hg with ⟨ho,hol,hg'⟩ | ⟨i,rfl,hg'⟩
      · rw [En ho (by rw [← hm.len]; exact hol)] at hx
        exact (hm.ok o x g hx hg').mono hext (fun b hb=>haside o g b ho hg' hb) (fun b hb off hi=>himmold o g b ho hg' hb off hi)
      · have hil:i < o0.length:=by rw [← hm'.len]; exact (List.getElem?_eq_some_iff.1 hg').1
        have hx0:o0[i]?=some o0[i]:=List.getElem?_eq_getElem hil
        have:(o0.map (Obj.ren (rn ks objs.length)))[i]?=some (o0[i].ren (rn ks objs.length)):=by rw [List.getElem?_map,hx0]; rfl
        rw [BB hn hl this] at hx
        cases hx
        exact (hm'.ok i _ g hx0 hg').ren hnew rfl
    · intro o o' g g' b h1 h2 e1 e2
      rcases hpart o g h1 with ⟨ho,hol,k1⟩ | ⟨i,rfl,k1⟩ <;> rcases hpart o' g' h2 with ⟨ho',hol',k2⟩ | ⟨j,rfl,k2⟩
      · exact hm.inj o o' g g' b k1 k2 e1 e2
      · exfalso
        have hlt:=hm.lt o g b k1 e1
        rcases hblk j g' b k2 e2 with h | ⟨k,hk,g2,h3,h4⟩
        · omega
        · have:=hm.inj o k g g2 b k1 h3 e1 h4
          subst this; exact ho hk
      · exfalso
        have hlt:=hm.lt o' g' b k2 e2
        rcases hblk i g b k1 e1 with h | ⟨k,hk,g2,h3,h4⟩
        · omega
        · have:=hm.inj o' k g' g2 b k2 h3 e2 h4
          subst this; exact ho' hk
      · rw [hm'.inj i j g g' b k1 k2 e1 e2]
    · intro o g b h1 e1
      rcases hpart o g h1 with ⟨ho,hol,k1⟩ | ⟨i,rfl,k1⟩
      · exact Nat.lt_of_lt_of_le (hm.lt o g b k1 e1) hst.size
      · exact hm'.lt i g b k1 e1
  · refine ⟨hext,?_,hst.size,hst.os,hst.tape,hst.output,?_,?_⟩
    · intro k hk hno
      refine hst.heap k hk ?_
      intro i g hg
      obtain ⟨k',_,hgk⟩:=hsub i g hg
      exact hno k' g hgk
    · intro b off hi
      rcases hst.imm2 b off hi with h | h | ⟨i,g,h1,h2⟩
      · exact .inl h
      · exact .inr (.inl h)
      · obtain ⟨k,_,hgk⟩:=hsub i g h1
        exact .inr (.inr ⟨k,g,hgk,h2⟩)
    · intro o g b h1 e1
      rcases hpart o g h1 with ⟨ho,hol,k1⟩ | ⟨i,rfl,k1⟩
      · exact .inr ⟨o,g,k1,e1⟩
      · rcases hblk i g b k1 e1 with h | ⟨k,_,g',h3,h4⟩
        · exact .inl h
        · exact .inr ⟨k,g',h3,h4⟩
  · cases ae0 with
    | ret x=>
      cases e with
      | returned v=>exact hend.ren hnew rfl
      | panicked chain=>exact hend.elim
      | outgrown=>exact hend.elim
    | pan x=>
      cases e with
      | returned v=>exact hend.elim
      | panicked chain=>obtain ⟨v,hv,hx⟩:=hend; exact ⟨v,hv,hx.ren hnew rfl⟩
      | outgrown=>exact hend.elim
end Go.Proofs.YtgkmbhllcekagaaGreatDoor.AM
/- Functions that are handed objects, for the models: contracts, calls, answers; ranges over maps; tails of drawn regions. -/
namespace Go.Proofs.YtgkmbhllcekagaaGreatDoor.AM
open Go
def d6 (P:Program) (f:Nat) (args:List AV) (oin:List Obj) (x:AV) (o0:List Obj):Prop:=dM P f args oin (fun ae o=>ae=.ret x∧o=o0)
theorem d6.of_model {P:Program}{β:Type}{f:Nat}{fn:Func}{c:Code}{args:List AV}{oin:List Obj}{m:Option β}{X:β→AV}{O:β→List Obj}{r:β} (hf:P.funcs[f]?=some fn) (hb:fn.body=some c) (hl:args.length≤fn.ntmps) (hm:m=some r) {n0:Nat} (hn0:oin.length=n0)
    (h:H m (fun y=>y=r) (awp P n0 c (st fn.ntmps (bA 0 args) oin) (pG P n0 fn.results.toList (pK X O r)) (fun _ _=>False))):d6 P f args oin (X r) (O r):=by
  subst hn0
  have h2:=h r hm rfl
  refine dM.mono (R:=pK X O r) (dM.of_awp hf hb ?_) (fun _ _ h=>h)
  rw [Lt args fn.ntmps hl]
  have he:(fun x objs'=>pK X O r (.pan x) objs')=fun (_:AV) (_:List Obj)=>False:=by
    funext x o'
    simp [pK]
  rw [he]; exact h2
/-! ### Answers -/
section
variable {P:Program}{β:Type}{r v:β}{n0 n:Nat}{o:List (Nat × AV)}{objs objs1:List Obj}{rs:List ResultVar}{X:β→AV}{O:β→List Obj}{xs ys:List AV}
theorem b6.one {n0:Nat}{xs ys:List AV}{objs objs':List Obj} (hx:AV.leL xs ys) (ho:leOb objs objs') (hn:n0≤objs'.length) (h1:AV.idsLtL objs'.length ys=true) (h2:cG objs'.length objs'=true) :
    b6 n0 ⟨[Aw xs],objs⟩ ⟨[Aw ys],objs'⟩:=by
  match xs,ys,hx,h1 with
  | [],[],_,_=>exact (b6.tup (n0:=n0) (xs:=[]) (ys:=[]) trivial).trans (b6.gen (tmps:=[.tup []]) (tmps':=[.tup []]) ⟨AV.le_refl _,trivial⟩ ho hn (by simp [AV.idsLtL,AV.idsLt]) h2)
  | [x],[y],hx,h1=>exact b6.gen (tmps:=[x]) (tmps':=[y]) hx ho hn h1 h2
  | x :: x1 :: xs,y :: y1 :: ys,hx,h1=>exact (b6.tup hx).trans (b6.gen (tmps:=[.tup (y :: y1 :: ys)]) (tmps':=[.tup (y :: y1 :: ys)]) ⟨AV.le_refl _,trivial⟩ ho hn (by simpa [AV.idsLtL,AV.idsLt] using h1) h2)
  | [x],_ :: _ :: _,hx,_=>exact hx.2.elim
  | _ :: _ :: _,[y],hx,_=>exact hx.2.elim
theorem b6.strip1 {n0:Nat}{xs:List AV}{objs:List Obj}:b6 n0 ⟨[Aw xs],objs⟩ ⟨[Aw (AV.stripL xs)],AV.pubL objs xs⟩:=by
  intro _ G0 w0 G a w hn hf
  obtain ⟨G',k1,k2,k3⟩:=k9 xs G objs hf.sat.mem
  have hv:=hf.sat.tmps
  have hlen:a.tmps.toList.length=1:=hv.1
  match hal:a.tmps.toList,hlen with
  | [u],_=>
    rw [hal] at hv
    have h0:=hv.2 0 _ u rfl rfl
    refine ⟨G',hf.step.trans k1,k2,?_,hf.sat.defers⟩
    rw [hal]
    refine ⟨rfl,fun i x v hx hv'=>?_⟩
    cases i with
    | succ i=>simp at hx
    | zero=>
      simp at hx hv'
      subst hx; subst hv'
      match xs,h0,k3 with
      | [],h0,k3=>cases h0 with | tup _ vs hl hc=>exact .tup [] vs hl (fun i c v h=>by simp at h)
      | [x],h0,k3=>exact (k3 [u] ⟨rfl,fun i x v hx hv=>by
          cases i with
          | zero=>simp at hx hv; subst hx; subst hv; exact h0
          | succ i=>simp at hx⟩).2 0 _ u rfl rfl
      | x :: x1 :: xs,h0,k3=>
        cases h0 with
        | tup _ vs hl hc=>
          obtain ⟨q1,q2⟩:=k3 vs ⟨hl,hc⟩
          exact .tup _ vs q1 q2
theorem IX (hr:sH P (st n o objs) rs=some xs) (hp:AV.pubL objs xs=objs1) (hX:Aw ys=X v) (hx:AV.leL (AV.stripL xs) ys) (ho:leOb objs1 (O v)) (hn:Nat.ble n0 (O v).length=true) (h1:AV.idsLtL (O v).length ys=true) (h2:cG (O v).length (O v)=true) :
    H (aH v) (fun y=>y=r) (pG P n0 rs (pK X O r) .ret (st n o objs)):=by
  refine Ab ?_
  rintro rfl
  subst hp
  exact ⟨Aw xs,by unfold qZ; rw [hr]; rfl,X v,O v,hX ▸ b6.strip1.trans (b6.one hx ho (Nat.le_of_ble_eq_true hn) h1 h2),rfl,rfl⟩
end
/-! ### Calls -/
def FB (f:Nat→Nat) (objs:List Obj):List Nat→List Obj→Prop
  | [],[]=>True
  | k :: ks,x :: xs=>objs[k]?=some (x.ren f)∧FB f objs ks xs
  | _,_=>False
theorem Iy {f:Nat→Nat}{objs:List Obj}:∀ {ks:List Nat}{oin:List Obj},FB f objs ks oin→ks.length=oin.length∧∀ (i k:Nat) (x:Obj),ks[i]?=some k→oin[i]?=some x→objs[k]?=some (x.ren f)
  | [],[],_=>⟨rfl,fun i k x h=>by simp at h⟩
  | k0 :: ks,x0 :: xs,h=>by
    obtain ⟨h1,h2⟩:=h
    obtain ⟨k1,k2⟩:=Iy h2
    refine ⟨by simp [k1],fun i k x hk hx=>?_⟩
    cases i with
    | zero=>simp at hk hx; subst hk; subst hx; exact h1
    | succ i=>exact k2 i k x (by simpa using hk) (by simpa using hx)
  | [],_ :: _,h=>h.elim
  | _ :: _,[],h=>h.elim
def zX (f:Nat→Nat):List Obj→List Obj→Prop
  | [],[]=>True
  | x :: xs,y :: ys=>x.ren f=y∧zX f xs ys
  | _,_=>False
theorem DW {f:Nat→Nat}:∀ {xs ys:List Obj},zX f xs ys→xs.map (Obj.ren f)=ys
  | [],[],_=>rfl
  | x :: xs,y :: ys,h=>by rw [List.map_cons,h.1,DW h.2]
  | [],_ :: _,h=>h.elim
  | _ :: _,[],h=>h.elim
def vQ:List Nat→Bool
  | []=>true
  | k :: ks=>!ks.contains k && vQ ks
theorem GY:∀ {ks:List Nat},vQ ks=true→ks.Nodup
  | [],_=>List.nodup_nil
  | k :: ks,h=>by
    simp only [vQ,Bool.and_eq_true,Bool.not_eq_true',List.contains_eq_mem,decide_eq_false_iff_not] at h
    exact List.nodup_cons.2 ⟨h.1,GY h.2⟩
def An (n:Nat):List Nat→Bool
  | []=>true
  | k :: ks=>Nat.blt k n && An n ks
theorem IA {n:Nat}:∀ {ks:List Nat},An n ks=true→∀ k ∈ ks,k < n
  | k0 :: ks,h,k,hk=>by
    simp only [An,Bool.and_eq_true] at h
    rcases List.mem_cons.1 hk with rfl | hk
    · exact Nat.le_of_ble_eq_true h.1
    · exact IA h.2 k hk
theorem dM.leOb {P:Program}{f:Nat}{args:List AV}{objs objs':List Obj}{R:kC→List Obj→Prop} (hl:objs'.length=objs.length) (hle:AM.leOb objs objs') (h:dM P f args objs' R):dM P f args objs R:=by
  intro G w vs hm hc
  refine h G w vs ⟨by rw [hm.len,hl],fun o x g hx hg=>?_,hm.inj,hm.lt,hm.immLt⟩ hc
  have hol:o < objs.length:=by rw [← hl]; exact (List.getElem?_eq_some_iff.1 hx).1
  exact Im ((DG hle).2 o _ x (List.getElem?_eq_getElem hol) hx) (hm.ok o _ g (List.getElem?_eq_getElem hol) hg)
def sM (ks:List Nat) (n:Nat) (l:List Obj):List Obj:=ks.map (fun k=>l.getD k .dead) ++ l.drop n
theorem N1 {f:Nat→Nat}{ks:List Nat}{n:Nat}{oin o0 l:List Obj}{x:AV} (hlen:ks.length=oin.length) (h:zX f o0 (sM ks n l)):∀ (ae:kC) (o:List Obj),(ae=.ret x∧o=o0)→oin.length≤o.length:=by
  rintro ae o ⟨_,rfl⟩
  have h1:=congrArg List.length (DW h)
  simp only [List.length_map,sM,List.length_append] at h1
  omega
def bX {α β:Type} (_ks:List Nat) (_w:List Obj) (_enc:α→AV) (_ob:α→List Obj) (e:Option α) (m:α→Option β):Option β:=e.bind m
section
variable {P:Program}{β α:Type}{m:α→Option β}{Φ:β→Prop}{ops rest:List Oper}{K:AS→Prop}{E:AV→List Obj→Prop}{n d g:Nat}{o:List (Nat × AV)}{objs objs1 objs2 oin:List Obj}{ty:TypeId}{pos:String}{af:Array Edge}{gd:Option (Nat × Bool)}
  {cal:Operand}{args:Array Operand}{at':Array TypeId}{first cap argsC:List AV}{e:Option α}{X:α→AV}{O:α→List Obj}{enc:α→AV}{ob:α→List Obj}{ks:List Nat}
theorem DK {o1:List (Nat × AV)} (hc:evo n o1 cal=.fn g first cap) (hen:aW P g=true) (hf:∀ r,e=some r→d6 P g argsC oin (X r) (O r))
    (hp:AV.pubL objs (first ++ args.toList.map (evo n o1) ++ cap)=objs1) (hw:leOb objs1 objs2) (hl:objs2.length=objs1.length)
    (hle:AV.leL (AV.stripL (first ++ args.toList.map (evo n o1) ++ cap)) (AV.renL (rn ks objs2.length) argsC)) (hn:vQ ks=true) (hk:An objs2.length ks=true)
    (hin:FB (rn ks objs2.length) objs2 ks oin) (ha:AV.idsLtL oin.length argsC=true) (hb:cG oin.length oin=true)
    (hx:∀ r,(X r).ren (rn ks objs2.length)=enc r) (hO:∀ r,zX (rn ks objs2.length) (O r) (sM ks objs2.length (ob r))) (ho:∀ r,jG ks objs2 (sM ks objs2.length (ob r))=ob r)
    {r:α} (hr:e=some r):Eff P (.call ⟨.value cal,args,at'⟩) n o1 objs (enc r) (ob r):=by
  refine ⟨?_⟩
  intro p N E hp' hN
  unfold aop; rw [hp']; dsimp only
  have ee:(st n o1 objs).eval=evo n o1:=funext fun x=>aX n o1 objs x
  rw [ee,hc]; dsimp only
  refine ⟨hen,?_⟩
  refine dM.strip ?_
  show dM P g _ (AV.pubL objs _) _
  rw [hp]
  refine dM.leOb hl hw (dM.le hle ?_)
  obtain ⟨hlen,hget⟩:=Iy hin
  refine ((hf r hr).frameR (N1 hlen (hO r)) ks objs2 (GY hn) (IA hk) hlen hget ha hb).mono ?_
  rintro ae oo ⟨ae0,o0,⟨rfl,rfl⟩,rfl,rfl⟩
  show N _
  rw [DW (hO r),ho r,hx r]; exact hN
theorem QF (hg:gev n o ops gd=some true) (hc:evo n o cal=.fn g first cap) (hen:aW P g=true) (hf:∀ r,e=some r→d6 P g argsC oin (X r) (O r))
    (hp:AV.pubL objs (first ++ args.toList.map (evo n o) ++ cap)=objs1) (hw:leOb objs1 objs2) (hl:objs2.length=objs1.length)
    (hle:AV.leL (AV.stripL (first ++ args.toList.map (evo n o) ++ cap)) (AV.renL (rn ks objs2.length) argsC)) (hn:vQ ks=true) (hk:An objs2.length ks=true)
    (hin:FB (rn ks objs2.length) objs2 ks oin) (ha:AV.idsLtL oin.length argsC=true) (hb:cG oin.length oin=true)
    (hx:∀ r,(X r).ren (rn ks objs2.length)=enc r) (hO:∀ r,zX (rn ks objs2.length) (O r) (sM ks objs2.length (ob r))) (ho:∀ r,jG ks objs2 (sM ks objs2.length (ob r))=ob r)
    (h:∀ r,H (m r) Φ (rg .p P ops rest (st n (oc d (enc r) o) (ob r)) K E)):H (bX ks objs2 enc ob e m) Φ (rg .p P ops (⟨some d,.call ⟨.value cal,args,at'⟩,ty,pos,af,gd⟩ :: rest) (st n o objs) K E):=by
  intro y hy hq
  unfold bX at hy
  cases he:e with
  | none=>rw [he] at hy; cases hy
  | some r=>
    rw [he] at hy
    have hop:=DK (at':=at') hc hen hf hp hw hl hle hn hk hin ha hb hx hO ho he
    cases gd with
    | none=>exact S_e (v:=enc r) (objs':=ob r) hop (h r) y hy hq
    | some jw=>
      obtain ⟨j,w⟩:=jw
      exact Jm (s':=st n (oc d (enc r) o) (ob r)) (j:=j) (want:=w) rfl (gG rfl hg) rfl (fun N E hN=>hop.run _ N E rfl hN) (h r) y hy hq
theorem Ox (hg:gev n (kst .c ops ⟨some d,.call ⟨.value cal,args,at'⟩,ty,pos,af,gd⟩ o) ops gd=some true) (hc:evo n (kst .c ops ⟨some d,.call ⟨.value cal,args,at'⟩,ty,pos,af,gd⟩ o) cal=.fn g first cap) (hen:aW P g=true) (hf:∀ r,e=some r→d6 P g argsC oin (X r) (O r))
    (hp:AV.pubL objs (first ++ args.toList.map (evo n (kst .c ops ⟨some d,.call ⟨.value cal,args,at'⟩,ty,pos,af,gd⟩ o)) ++ cap)=objs1) (hw:leOb objs1 objs2) (hl:objs2.length=objs1.length)
    (hle:AV.leL (AV.stripL (first ++ args.toList.map (evo n (kst .c ops ⟨some d,.call ⟨.value cal,args,at'⟩,ty,pos,af,gd⟩ o)) ++ cap)) (AV.renL (rn ks objs2.length) argsC)) (hn:vQ ks=true) (hk:An objs2.length ks=true)
    (hin:FB (rn ks objs2.length) objs2 ks oin) (ha:AV.idsLtL oin.length argsC=true) (hb:cG oin.length oin=true)
    (hx:∀ r,(X r).ren (rn ks objs2.length)=enc r) (hO:∀ r,zX (rn ks objs2.length) (O r) (sM ks objs2.length objs)) (ho:jG ks objs2 (sM ks objs2.length objs)=objs)
    (h:∀ r,H (m r) Φ (rg .c P ops rest (st n (oc d (rv .c gd (enc r)) o) objs) K E)):H (bX ks objs2 enc ob e m) Φ (rg .c P ops (⟨some d,.call ⟨.value cal,args,at'⟩,ty,pos,af,gd⟩ :: rest) (st n o objs) K E):=by
  intro y hy hq
  unfold bX at hy
  cases he:e with
  | none=>rw [he] at hy; cases hy
  | some r=>
    rw [he] at hy
    have hop:=DK (ob:=fun _=>objs) (at':=at') hc hen hf hp hw hl hle hn hk hin ha hb hx hO (fun _=>ho) he
    cases gd with
    | none=>exact Ja (s:=st n o objs) (s1:=st n (kst .c ops ⟨some d,.call ⟨.value cal,args,at'⟩,ty,pos,af,none⟩ o) objs) (y:=enc r) rfl rfl (kL _ _ _ _) (fun N E hN=>hop.run _ N E rfl hN) (h r) y hy hq
    | some jw=>
      obtain ⟨j,w⟩:=jw
      exact yJ (s:=st n o objs) (s1:=st n (kst .c ops ⟨some d,.call ⟨.value cal,args,at'⟩,ty,pos,af,some (j,w)⟩ o) objs) (v:=enc r) rfl rfl (kL _ _ _ _) (gG rfl hg) (.inl fun _ N E hN=>hop.run _ N E rfl hN) (h r) y hy hq
end
/-! ### The tail of a drawn region -/
def Ma {β:Type} (_k:Nat) (m:Option β):Option β:=m
section
variable {P:Program}{n0:Nat}{Q:AX→AS→Prop}{E:AV→List Obj→Prop}{β:Type}{m:Option β}{Φ:β→Prop}{s:AS}
theorem QP {id k:Nat}{l l1 l2:List Oper} (e1:P.follows .mixedOrders=true) (e2:JS l.toArray k=true) (h1:l.take k=l1) (h2:l.drop k=l2) (h:H m Φ (rg .c P l l1 s (fun s'=>rg .p P l l2 s' (Q .normal) (fun _ _=>False)) E)) :
    H (Ma k m) Φ (awp P n0 (.region id l.toArray true) s Q E):=by
  subst h1; subst h2
  exact fun y hy hp=>KV k e1 e2 (h y hy hp)
end
end Go.Proofs.YtgkmbhllcekagaaGreatDoor.AM
/- Ranges over maps, for the models: whatever the order of the entries. -/
namespace Go.Proofs.YtgkmbhllcekagaaGreatDoor.AM
open Go
section
variable {P:Program}{n0 n:Nat}{Q:AX→AS→Prop}{E:AV→List Obj→Prop}{σ ε β:Type}{Φ:β→Prop}
end
section
variable {P:Program}{β:Type}{m:Option β}{Φ:β→Prop}{ops rest:List Oper}{K:AS→Prop}{E:AV→List Obj→Prop}{n d:Nat}{o:List (Nat × AV)}{objs:List Obj}{ty t:TypeId}{pos:String}{af:Array Edge}{x:Operand}
theorem QD {κ α:Type}{kv:κ→Value}{av:α→AV}{es:List (κ × α)}{bs seen:List Nat}{cl k mi i b:Nat}{e:κ × α} (hx:evo n o x=.ptr k 0) (hi:objs[k]?=some (.iter mi cl (seen ++ [b]))) (hm:objs[mi]?=some (.mapB bs cl (mp kv av es)))
    (h1:bs[i]?=some b) (h2:es[i]?=some e):Val P (.entry x) n o objs (.tup [AV.ofValue (kv e.1),av e.2]):=by
  refine ⟨?_⟩
  intro p N E hp hN
  unfold aop; rw [hp]; dsimp only
  have ee:(st n o objs).eval x=.ptr k 0:=by rw [show (st n o objs).eval x=evo n o x from aX n o objs x]; exact hx
  rw [ee]
  unfold CJ
  simp only [hi,hm]
  refine ⟨trivial,seen,i,b,(kv e.1,av e.2),rfl,h1,?_,hN⟩
  rw [mp,List.getElem?_map,h2]; rfl
theorem HU {y:Operand}{α:Type}{en:α→AV}{l:List α}{i j:TI}{len:Nat}{e:TypeId}{q:IntKind}{k:Int}{r:α} (ht:ti P t=some i) (hd:i.desc=.array len e) (hj:ti P e=some j) (ha:j.isAgg=false) (hs:j.size=1) (hx:evo n o x=.agg (l.map en)) (hln:l.length=len) (hy:evo n o y=.v (.int q k)) (h0:0≤k) (hr:l[k.toNat]?=some r) :
    Val P (.index t x y) n o objs (en r):=by
  have hk:k.toNat < l.length:=(List.getElem?_eq_some_iff.1 hr).1
  refine ⟨?_⟩
  intro p N E hp hN
  unfold aop; rw [hp]; dsimp only
  have ee:(st n o objs).eval=evo n o:=funext fun x=>aX n o objs x
  rw [ee,hx,hy]
  unfold oJ
  simp only [ht,hd,hj]
  refine ⟨h0,by omega,?_⟩
  unfold o6
  refine ⟨by rw [List.length_map,hs]; omega,?_⟩
  rw [if_neg (by simp [ha])]
  refine ⟨by omega,?_⟩
  rw [hs,Nat.mul_one,List.getD_eq_getElem?_getD,List.getElem?_map,hr]
  exact hN
end
/-! ### What is forgotten between two statements -/
section
variable {P:Program}{n0 n k:Nat}{Q Q1:AX→AS→Prop}{E:AV→List Obj→Prop}{β:Type}{m:Option β}{Φ:β→Prop}{s:AS}{ph:List (Nat × AV)}{ob:List Obj}{id:Nat}{ops:Array Oper}{dr:Bool}{c:Code}
end
end Go.Proofs.YtgkmbhllcekagaaGreatDoor.AM
/- Builders, and texts laid behind octets, for the models. -/
namespace Go.Proofs.YtgkmbhllcekagaaGreatDoor.AM
open Go
def pW (s:Str):List Int:=s.map fun b=>(b.toNat:Int)
theorem Ib (s:Str):oO s=(pW s).map (cK .u8):=by simp [oO,pW,cK,Function.comp_def]
theorem dZ (l l':List Int):fG (l ++ l')=fG l ++ fG l':=by simp [fG]
section
variable {P:Program}{n:Nat}{o:List (Nat × AV)}{objs objs':List Obj}{x y:Operand}{t xt:TypeId}
theorem TV {i:TI}{k e:Nat}{buf:AV} (ht:ti P t=some i) (ha:i.isAgg=false) (hs:i.size=1) (hx:evo n o x=.ptr k 1) (ho:objs[k]?=some (.bld e buf)):Val P (.load t x) n o objs buf:=by
  refine ⟨?_⟩; intro p N E hp hN; unfold aop; rw [hp]; dsimp only; rw [aX,hx]; unfold jJ; rw [ht]; dsimp only [st]; rw [ho]; exact ⟨rfl,ha,hs,hN⟩
theorem Md {i:TI}{k e:Nat}{buf z:AV} (ht:ti P t=some i) (hs:i.size=1) (hx:evo n o x=.ptr k 1) (hy:hU (evo n o y)=some [z]) (ho:objs[k]?=some (.bld e buf)) (ho':objs.set k (.bld e z)=objs'):Eff P (.store t x y) n o objs .any objs':=by
  subst ho'
  refine ⟨?_⟩; intro p N E hp hN; unfold aop; rw [hp]; dsimp only; rw [aX,aX,hx]; unfold sD; rw [ht,hy]; dsimp only [st]; rw [ho]; exact ⟨rfl,hs,rfl,hN⟩
section
variable {i j xi:TI}{e:TypeId}{l:List Int}{a:Str} (ht:ti P t=some i) (hd:i.desc=.slice e) (hj:ti P e=some j) (h0:0 < j.size∧0 < j.bytes) (hs:j.size=1) (hxt:ti P xt=some xi) (hxd:Em xi.desc=true) (hy:evo n o y=.v (.string (bs a)))
include ht hd hj h0 hs hxt hxd hy
theorem GF:mR P t xt e (evo n o y)=some ((pW a).map (cK .u8))∧∀ r ∈ (pW a).map (cK .u8),r.length=j.size:=by
  rw [hy]
  refine ⟨?_,fun r hr=>?_⟩
  · rw [← Ib]
    unfold mR; dsimp only
    rw [hxt,hj,if_pos ⟨by simp [hxd],by simp [hs]⟩]
    rfl
  · obtain ⟨q,_,rfl⟩:=List.mem_map.1 hr; rw [hs]; rfl
theorem Q5 {k:Nat} (hx:evo n o x=.v (.slice none 0 0)) (hb:(pW a).length * j.bytes≤140737488355328) (hk:objs.length=k) (ho:objs ++ [.tok (pW a).length j.size e true]=objs') :
    Eff P (.call ⟨.builtin .append,#[x,y],#[t,xt]⟩) n o objs (.sl ((pW a).map (cK .u8)) (.own k)) objs':=by
  subst hk; subst ho
  refine ⟨?_⟩; intro p N E hp hN; unfold aop; rw [hp]; dsimp only [List.map,Array.toList]; rw [aX,aX,hx]
  obtain ⟨k1,k2⟩:=GF (n:=n) (o:=o) ht hd hj h0 hs hxt hxd hy
  unfold dC; dsimp only; unfold jU; rw [ht]; dsimp only; rw [hd]; dsimp only; rw [hj]; dsimp only; rw [k1]; dsimp only
  refine ⟨h0.1,h0.2,k2,by rw [List.length_map]; exact hb,?_⟩
  rw [List.length_map]; exact hN
theorem Sm {k:Nat} (hx:evo n o x=.sl (l.map (cK .u8)) .exact) (hpos:0 < l.length + (pW a).length) (hb:(l.length + (pW a).length) * j.bytes≤140737488355328) (hk:objs.length=k) (ho:objs ++ [.tok (l ++ pW a).length j.size e l.isEmpty]=objs') :
    Eff P (.call ⟨.builtin .append,#[x,y],#[t,xt]⟩) n o objs (.sl ((l ++ pW a).map (cK .u8)) (.own k)) objs':=by
  subst hk; subst ho
  refine ⟨?_⟩; intro p N E hp hN; unfold aop; rw [hp]; dsimp only [List.map,Array.toList]; rw [aX,aX,hx]
  obtain ⟨k1,k2⟩:=GF (n:=n) (o:=o) ht hd hj h0 hs hxt hxd hy
  unfold dC; dsimp only; unfold jU; rw [ht]; dsimp only; rw [hd]; dsimp only; rw [hj]; dsimp only; rw [k1]; dsimp only
  refine ⟨h0.1,h0.2,k2,by rw [List.length_map,List.length_map]; exact hpos,fun r hr=>?_,by rw [List.length_map,List.length_map]; exact hb,?_⟩
  · obtain ⟨q,_,rfl⟩:=List.mem_map.1 hr; rw [hs]; rfl
  · have he:(l.map (cK .u8)).isEmpty=l.isEmpty:=by cases l <;> rfl
    rw [List.length_map,List.length_map,← List.map_append,← List.length_append,he]; exact hN
theorem QV {k:Nat}{ex:Bool}{len:Nat} (hx:evo n o x=.sl (l.map (cK .u8)) (.own k)) (ho:objs[k]?=some (.tok len j.size e ex)) (hln:len=l.length) (hb:(l.length + (pW a).length) * j.bytes≤140737488355328) (ho':objs.set k (.tok (l ++ pW a).length j.size e ex)=objs') :
    Eff P (.call ⟨.builtin .append,#[x,y],#[t,xt]⟩) n o objs (.sl ((l ++ pW a).map (cK .u8)) (.own k)) objs':=by
  subst ho'
  refine ⟨?_⟩; intro p N E hp hN; unfold aop; rw [hp]; dsimp only [List.map,Array.toList]; rw [aX,aX,hx]
  obtain ⟨k1,k2⟩:=GF (n:=n) (o:=o) ht hd hj h0 hs hxt hxd hy
  unfold dC; dsimp only; unfold jU; rw [ht]; dsimp only; rw [hd]; dsimp only; rw [hj]; dsimp only; rw [k1]; dsimp only; rw [ho]
  refine ⟨h0.1,h0.2,k2,by rw [List.length_map]; exact hln,rfl,rfl,fun r hr=>?_,by rw [List.length_map,List.length_map]; exact hb,?_⟩
  · obtain ⟨q,_,rfl⟩:=List.mem_map.1 hr; rw [hs]; rfl
  · rw [List.length_map,List.length_map,← List.map_append,← List.length_append]; exact hN
end
end
end Go.Proofs.YtgkmbhllcekagaaGreatDoor.AM
/- What the walks of functions that are handed objects lean on. -/
namespace Go.Proofs.YtgkmbhllcekagaaGreatDoor.AM
open Go
section
variable {κ α:Type}{kv:κ→Value}{av:α→AV}{es:List (κ × α)}{f:Nat→Nat}
theorem Fh (h:∀ a,(av a).ren f=av a):(Obj.map (mp kv av es)).ren f=.map (mp kv av es):=by
  simp only [Obj.ren,mp,List.map_map]
  congr 1
  refine List.map_congr_left fun e _=>?_
  simp [h]
theorem My {o:Option Obj} (e:o=some (.map (mp kv av es))) (h:∀ a,(av a).ren f=av a):o=some ((Obj.map (mp kv av es)).ren f):=by rw [Fh h]; exact e
end
theorem PY (f:Nat→Nat):∀ d:D,(AV.ofD d).ren f=.ofD d
  | .v _=>rfl
  | .sl _=>rfl
theorem H3 (f:Nat→Nat):∀ l:List D,AV.renL f (l.map .ofD)=l.map .ofD
  | []=>rfl
  | d :: l=>by simp [AV.renL,PY,H3 f l]
theorem EL {rows:List (List D)}{f:Nat→Nat}:(Obj.box (bL rows)).ren f=.box (bL rows):=by
  simp only [Obj.ren,bL,H3]
theorem Mz {o:Option Obj}{rows:List (List D)}{f:Nat→Nat} (e:o=some (.box (bL rows))):o=some ((Obj.box (bL rows)).ren f):=by rw [EL]; exact e
def noM {β:Type}:Option β:=none
theorem Ts {β:Type}{Φ:β→Prop}{G:Prop}:H (noM:Option β) Φ G:=fun _ h _=>by cases h
section
variable {P:Program}{n:Nat}{o:List (Nat × AV)}{objs:List Obj}{x y:Operand}{t:TypeId}{κ α:Type} [DecidableEq κ] {kv:κ→Value}{av:α→AV}{es:List (κ × α)}{i ki:TI}{kt et:TypeId}{k:Nat}{key:κ}{zl:List Value}
  (ht:ti P t=some i) (hd:i.desc=.map kt et) (hk:ti P kt=some ki) (hx:evo n o x=.map k) (ho:objs[k]?=some (.map (mp kv av es))) (hq:rI kv ki.desc) (hy:evo n o y=.v (kv key))
theorem CU (h1:zl.all (·.oneCell')=true):AV.ofValue (.agg zl.toArray)=.agg (zl.map .v):=by
  simp only [AV.ofValue]
  rw [if_pos (by simpa using h1)]
include ht hd hk hx ho hq hy
theorem Rb (hz:(P.info? et).bind (·.zero)=some (.agg zl.toArray)) (h1:zl.all (·.oneCell')=true) (hl:mlk es key=none):Val P (.lookup t x y true) n o objs (.tup [.agg (zl.map .v),.v (.bool false)]):=by
  have:=PF ht hd hk hx ho hq hy hz hl
  rw [CU h1] at this; exact this
theorem QG (hz:(P.info? et).bind (·.zero)=some (.agg zl.toArray)) (h1:zl.all (·.oneCell')=true) (hl:mlk es key=none):Val P (.lookup t x y false) n o objs (.agg (zl.map .v)):=by
  have:=Ns ht hd hk hx ho hq hy hz hl
  rw [CU h1] at this; exact this
end
def Pu (n:Nat):List Obj→List Obj→Prop
  | [],[]=>True
  | x :: xs,y :: ys=>x.shift n=y∧Pu n xs ys
  | _,_=>False
theorem Le {n:Nat}:∀ {xs ys:List Obj},Pu n xs ys→xs.map (Obj.shift n)=ys
  | [],[],_=>rfl
  | x :: xs,y :: ys,h=>by rw [List.map_cons,h.1,Le h.2]
  | [],_ :: _,h=>h.elim
  | _ :: _,[],h=>h.elim
theorem PB {l xs ys:List Obj}{n:Nat} (h:Pu n xs (ys.drop l.length)) (e:l ++ ys.drop l.length=ys):l ++ xs.map (Obj.shift n)=ys:=by rw [Le h,e]
theorem IU {κ α:Type}{kv:κ→Value}{av:α→AV}{es:List (κ × α)}{n:Nat} (h:∀ a,(av a).shift n=av a):(Obj.map (mp kv av es)).shift n=.map (mp kv av es):=by
  simp only [Obj.shift,mp,List.map_map]
  congr 1
  refine List.map_congr_left fun e _=>?_
  simp [h]
section
variable {P:Program}{β:Type}{m:Option β}{Φ:β→Prop}{ops rest:List Oper}{K:AS→Prop}{E:AV→List Obj→Prop}{n d:Nat}{o:List (Nat × AV)}{objs objs':List Obj}{ty:TypeId}{pos:String}{af:Array Edge}
end
end Go.Proofs.YtgkmbhllcekagaaGreatDoor.AM
/- A new variable in a drawn region, for the models. -/
namespace Go.Proofs.YtgkmbhllcekagaaGreatDoor.AM
open Go
section
variable {P:Program}{n0 n:Nat}{Q:AX→AS→Prop}{E:AV→List Obj→Prop}{β:Type}{m:Option β}{Φ:β→Prop}{o:List (Nat × AV)}{objs:List Obj}
end
end Go.Proofs.YtgkmbhllcekagaaGreatDoor.AM
/- Rows of one's own, handed and handed back; texts as octets; rows without room. -/
namespace Go.Proofs.YtgkmbhllcekagaaGreatDoor.AM
open Go
section
variable {P:Program}{β α:Type}{m:α→Option β}{Φ:β→Prop}{ops rest:List Oper}{K:AS→Prop}{E:AV→List Obj→Prop}{n d g:Nat}{o:List (Nat × AV)}{objs oin:List Obj}{ty:TypeId}{pos:String}{af:Array Edge}{gd:Option (Nat × Bool)}
  {cal:Operand}{args:Array Operand}{at':Array TypeId}{first cap argsC:List AV}{e:Option α}{X:α→AV}{O:α→List Obj}{enc:α→AV}{ob:α→List Obj}{ks:List Nat}
end
section
variable {P:Program}{n:Nat}{o:List (Nat × AV)}{objs:List Obj}{x y z:Operand}{t t':TypeId}
theorem S4 {i j ei:TI}{e:TypeId}{a:Str} (ht:ti P t=some i) (hj:ti P t'=some j) (hd:j.desc=.slice e) (he:ti P e=some ei) (hu:ei.desc=.int .u8) (hx:evo n o x=.v (.string (bs a))) (hb:a.length≤140737488355328) :
    Val P (.convert t t' x) n o objs (.sl ((pW a).map (cK .u8)) .none):=by
  refine ⟨?_⟩; intro p N E hp hN; unfold aop; rw [hp]; dsimp only; refine Or.inr ?_; rw [aX,hx]; unfold CC; rw [ht,hj]; dsimp only; rw [hd]; dsimp only
  exact ⟨by rw [he]; exact congrArg some hu,hb,by rw [show oO (bs a).data.toList=oO a from by simp [bs],Ib]; exact hN⟩
theorem Tm {α:Type}{c:α→List D}{i j:TI}{e:TypeId}{lo hi:Option Operand}{mx:Operand}{s:List α}{q:IntKind}{l h m:Int} (ht:ti P t=some i) (hd:i.desc=.slice e) (hj:ti P e=some j) (hz:∀ r,(c r).length=j.size) (hx:evo n o x=.sl (s.map c) .none) (hl:cT (lo.map (evo n o)) 0=some l) (hh:cT (hi.map (evo n o)) (s.length:Int)=some h) (hm:evo n o mx=.v (.int q m)) (hs:hi.isSome=true) (hb:0≤l∧l≤h∧h≤(s.length:Int)) (hmh:m=h) :
    Val P (.slice t x lo hi (some mx)) n o objs (.sl (((s.take h.toNat).drop l.toNat).map c) .exact):=by
  rw [hmh] at hm
  refine ⟨?_⟩; intro p N E hp hN; unfold aop; rw [hp]; dsimp only
  have e:(st n o objs).eval=evo n o:=funext fun x=>aX n o objs x
  rw [e,hx]; unfold oL; rw [ht]; dsimp only; rw [hd]; dsimp only; rw [hj]
  have hmm:∀ r ∈ s.map c,r.length=j.size:=by intro r hr; obtain ⟨q,_,rfl⟩:=List.mem_map.1 hr; exact hz q
  have hN':N ((st n o objs).put p.dst (.sl (((s.map c).take h.toNat).drop l.toNat) .exact)):=by rw [← List.map_take,← List.map_drop]; exact hN
  rw [hl,List.length_map,hh,Option.map_some,hm]
  exact ⟨hmm,hb.1,hb.2.1,hb.2.2,rfl,by simpa using hs,(fun h=>by cases h),hN'⟩
end
/-! ### A row without room becomes a row of one's own -/
section
variable {P:Program}{n0 n:Nat}{Q:AX→AS→Prop}{E:AV→List Obj→Prop}{β:Type}{m:Option β}{Φ:β→Prop}{o:List (Nat × AV)}{objs objs':List Obj}
end
/-! ### A part of an object becomes a row of one's own -/
theorem Mem.set1 {G:aL}{objs:List Obj}{w:World} (hm:Mem G objs w) {k:Nat}{x x':Obj} (hk:objs[k]?=some x) (h:∀ g,G.bl[k]?=some g→g9 G w g x→g9 G w g x'):Mem G (objs.set k x') w:=by
  refine ⟨by rw [List.length_set]; exact hm.len,fun o y g hy hg=>?_,hm.inj,hm.lt,hm.immLt⟩
  rw [List.getElem?_set] at hy
  split at hy
  · rename_i e
    subst e
    split at hy
    · cases hy; exact h g hg (hm.ok _ _ g hk hg)
    · cases hy
  · exact hm.ok o y g hy hg
theorem b6.tokB {n0:Nat}{s:AS} (k i sz e:Nat) {cells:List AV} (h:s.objs[k]?=some (.box cells)) (hi:cells[i]?=some (.v (.slice none 0 0))) :
    b6 n0 s ⟨s.tmps,(s.objs.set k (.box (cells.set i (.sl [] (.own s.objs.length))))) ++ [.tok 0 sz e true]⟩:=by
  intro _ G0 w0 G a w hn0 hf
  have hm:=hf.sat.mem
  have hst:=hf.step.push (.full 0) (by intro b hb; cases hb)
  have m1:Mem ⟨G.bl ++ [.full 0],G.imm⟩ (s.objs ++ [.tok 0 sz e true]) w:=Mem.push hm (.inl ⟨rfl,fun _=>rfl⟩) (by intro b hb; cases hb)
  have hkl:k < s.objs.length:=(List.getElem?_eq_some_iff.1 h).1
  have hk1:(s.objs ++ [.tok 0 sz e true])[k]?=some (.box cells):=by rw [List.getElem?_append_left hkl]; exact h
  have m2:=m1.set1 hk1 (x':=.box (cells.set i (.sl [] (.own s.objs.length)))) (by
    intro g hg hok
    rcases hok with ⟨rfl,_⟩ | ⟨b,c,e',h1,h2,h3,h4,h5⟩
    · cases hi
    · refine .inr ⟨b,c,e',h1,h2,by rw [List.length_set]; exact h3,fun j x v hx hv=>?_,h5⟩
      rw [List.getElem?_set] at hx
      split at hx
      · rename_i e1
        subst e1
        split at hx
        · cases hx
          obtain ⟨q1,q2⟩:=h4 _ _ v hi hv
          refine ⟨q1,?_⟩
          have:=qI q2
          subst this
          exact .sl [] _ _ (SlC.nil none 0 (by simp [maxLen])) (.inl ⟨0,by rw [← hm.len]; simp,Nat.le_refl _,fun _=>⟨none,rfl,fun _=>rfl⟩⟩)
        · cases hx
      · exact h4 j x v hx hv)
  rw [List.set_append_left _ _ hkl] at m2
  exact ⟨⟨G.bl ++ [.full 0],G.imm⟩,hst,m2,hf.sat.tmps.mono (p8 G w (.full 0)),hf.sat.defers⟩
def tokB {β:Type} (_k _i _sz _e:Nat) (m:Option β):Option β:=m
section
variable {P:Program}{n0 n:Nat}{Q:AX→AS→Prop}{E:AV→List Obj→Prop}{β:Type}{m:Option β}{Φ:β→Prop}{o:List (Nat × AV)}{objs objs1 objs':List Obj}
theorem Rr {k i sz e kk:Nat}{c:Code}{cells cells':List AV} (h:objs[k]?=some (.box cells)) (hi:cells[i]?=some (.v (.slice none 0 0))) (hk:objs.length=kk) (hc:cells.set i (.sl [] (.own kk))=cells') (h1:objs.set k (.box cells')=objs1) (ho:objs1 ++ [.tok 0 sz e true]=objs') (hr:H m Φ (awp P n0 (.loop c) (st n o objs') Q E)):H (tokB k i sz e m) Φ (awp P n0 (.loop c) (st n o objs) Q E):=by
  subst hk; subst hc; subst h1; subst ho
  intro y hy hp
  obtain ⟨I,⟨a,s',h1,h2⟩,h3⟩:=hr y hy hp
  exact ⟨I,⟨a,s',(b6.tokB (s:=st n o objs) k i sz e h hi).trans h1,h2⟩,h3⟩
end
/-! ### The library's own, by its contracts -/
theorem Fun.of_calls2 {P:Program}{f:Nat}{x y v:Value} (h:∀ w,Calls P f #[x,y] w (fun e w'=>e=.returned v∧w'=w)) (hv:v.oneCell'=true):Fun P f [.v x,.v y] (.v v) []:=by
  intro G w vs hm hc
  obtain ⟨hl,hc⟩:=hc
  match vs,hl with
  | [a,b],_=>
    have h1:=qI (hc 0 _ a rfl rfl)
    have h2:=qI (hc 1 _ b rfl rfl)
    subst h1; subst h2
    refine (h w).mono ?_
    rintro e w' ⟨rfl,rfl⟩
    exact ⟨.ret (.v v),[],G,⟨rfl,rfl⟩,hm,bI.refl G w',.v v hv⟩
section
variable {P:Program}{n0:Nat}{Q:AX→AS→Prop}{E:AV→List Obj→Prop}{β:Type}{m:Option β}{Φ:β→Prop}{s:AS}
end
section
variable {P:Program}{β α:Type}{m:α→Option β}{Φ:β→Prop}{ops:List Oper}{K:AS→Prop}{n d g:Nat}{o o1:List (Nat × AV)}{objs objs1 objs' oin:List Obj}{ty:TypeId}{pos:String}{af:Array Edge}{v:AV}
  {cal:Operand}{args:Array Operand}{at':Array TypeId}{first cap argsC:List AV}{e:Option α}{X:α→AV}{O:α→List Obj}{enc:α→AV}{ob:α→List Obj}{ks:List Nat}{op:Op}
end
/-! ### Branches, where the code branches -/
section
variable {P:Program}{n0:Nat}{Q:AX→AS→Prop}{E:AV→List Obj→Prop}{β:Type}{m1 m2:Option β}{Φ:β→Prop}{s:AS}{b:Bool}
theorem RF {c:Operand}{t e:Code} (h1:b=true→H m1 Φ (awp P n0 (.cond c t e) s Q E)) (h2:b=false→H m2 Φ (awp P n0 (.cond c t e) s Q E)):H (aG b m1 m2) Φ (awp P n0 (.cond c t e) s Q E):=Nn h1 h2
theorem RP {md:Mo}{ops rest:List Oper}{K:AS→Prop}{d:Option Nat}{op:Op}{ty:TypeId}{pos:String}{af:Array Edge}{jw:Nat × Bool} (h1:b=true→H m1 Φ (rg md P ops (⟨d,op,ty,pos,af,some jw⟩ :: rest) s K E)) (h2:b=false→H m2 Φ (rg md P ops (⟨d,op,ty,pos,af,some jw⟩ :: rest) s K E)):H (aG b m1 m2) Φ (rg md P ops (⟨d,op,ty,pos,af,some jw⟩ :: rest) s K E):=Nn h1 h2
end
/-! ### A row without elements, of one's own -/
def L4 {β:Type} (m:Option β):Option β:=m
section
variable {P:Program}{β:Type}{m:Option β}{Φ:β→Prop}{ops rest:List Oper}{K:AS→Prop}{E:AV→List Obj→Prop}{n d k:Nat}{o:List (Nat × AV)}{objs objs':List Obj}{ty t e:TypeId}{pos:String}{af:Array Edge}
theorem Tb {i j:TI} (ht:ti P t=some i) (hd:i.desc=.slice e) (hj:ti P e=some j) (h0:0 < j.size) (hk:objs.length=k) (ho:objs ++ [.tok 0 j.size e true]=objs'):Eff P (.buildSlice t 0 #[]) n o objs (.sl [] (.own k)) objs':=by
  subst hk; subst ho
  refine ⟨?_⟩; intro p N E hp hN; unfold aop; rw [hp]; dsimp only
  exact Or.inr (Or.inl ⟨rfl,rfl,i,e,j,ht,hd,hj,h0,hN⟩)
theorem Tt {i j:TI} (ht:ti P t=some i) (hd:i.desc=.slice e) (hj:ti P e=some j) (h0:0 < j.size) (hk:objs.length=k) (ho:objs ++ [.tok 0 j.size e true]=objs') (h:H m Φ (rg .p P ops rest (st n (oc d (.sl [] (.own k)) o) objs') K E)):H (L4 m) Φ (rg .p P ops (⟨some d,.buildSlice t 0 #[],ty,pos,af,none⟩ :: rest) (st n o objs) K E) :=
  S_e (Tb ht hd hj h0 hk ho) h
end
end Go.Proofs.YtgkmbhllcekagaaGreatDoor.AM
/- Rows handed over whole: taken as one's own at the start, given up ahead of a call. -/
namespace Go.Proofs.YtgkmbhllcekagaaGreatDoor.AM
open Go
end Go.Proofs.YtgkmbhllcekagaaGreatDoor.AM
/- A row of one's own, given up ahead of a call that takes it whole. -/
namespace Go.Proofs.YtgkmbhllcekagaaGreatDoor.AM
open Go
end Go.Proofs.YtgkmbhllcekagaaGreatDoor.AM
/- Rows handed over whole, for the models. -/
namespace Go.Proofs.YtgkmbhllcekagaaGreatDoor.AM
open Go
section
variable {P:Program}{n0 n d k m' sz e:Nat}{Q:AX→AS→Prop}{β α:Type}{m:Option β}{Φ:β→Prop}{o:List (Nat × AV)}{objs objs' pre:List Obj}{next:AS→Prop}{c:α→List D}{l:List α}
end
end Go.Proofs.YtgkmbhllcekagaaGreatDoor.AM
/- Keys of several cells, for the models. -/
namespace Go.Proofs.YtgkmbhllcekagaaGreatDoor.AM
open Go
section
variable {κ:Type}{c:κ→List D}{n:Nat} (hs:∀ a,∃ l:List ByteArray,c a=l.map (fun s=>D.v (.string s))∧l.length=n)
include hs
end
end Go.Proofs.YtgkmbhllcekagaaGreatDoor.AM
/- Copying into a variable's array, for the models. -/
namespace Go.Proofs.YtgkmbhllcekagaaGreatDoor.AM
open Go
theorem Ic:∀ (c:List AV) (off:Nat) (u:AV) (us:List AV),off + (us.length + 1)≤c.length→(c.set off u).take (off + 1) ++ us ++ (c.set off u).drop (off + 1 + us.length)=c.take off ++ (u :: us) ++ c.drop (off + (us.length + 1))
  | [],off,u,us,h=>by simp at h
  | a :: c,0,u,us,h=>by simp [Nat.add_comm]
  | a :: c,off + 1,u,us,h=>by
    have ih:=Ic c off u us (by simp at h; omega)
    simp only [List.set_cons_succ,List.take_succ_cons,List.cons_append,Nat.add_right_comm off 1,List.drop_succ_cons] at ih ⊢
    rw [← ih]
    simp [Nat.add_right_comm]
theorem Fx:∀ (us c:List AV) (off:Nat),off + us.length≤c.length→setFrom c off us=c.take off ++ us ++ c.drop (off + us.length)
  | [],c,off,_=>by simp [setFrom]
  | u :: us,c,off,h=>by
    simp only [setFrom]
    rw [Fx us (c.set off u) (off + 1) (by simp at h ⊢; omega)]
    have:=Ic c off u us (by simpa using h)
    rw [this]
    simp
section
variable {P:Program}{n:Nat}{o:List (Nat × AV)}{objs objs':List Obj}{x y:Operand}{t t2 e:TypeId}{i j:TI}{k:Nat}{tk:Tk}{α:Type}{c:α→List D}{l olds:List α}
theorem Ty {m off:Nat} (ht:ti P t=some i) (hd:i.desc=.array m e) (hj:ti P e=some j) (hx:evo n o x=.ptr k off) (hm:Nat.ble m maxLen=true):Val P (.slice t x none none none) n o objs (.bsl k off m):=by
  refine ⟨?_⟩; intro p N E hp hN; unfold aop; rw [hp]; dsimp only [Option.map]
  rw [aX,hx]; unfold oL; rw [ht]; (try dsimp only); rw [hd]; (try dsimp only); rw [hj]; simp only [cT]
  refine ⟨Int.le_refl _,by omega,by omega,Nat.le_of_ble_eq_true hm,?_⟩
  have e1:off + (0:Int).toNat * j.size=off:=by simp
  have e2:((m:Int) - 0).toNat=m:=by simp
  rw [e1,e2]; exact hN
end
end Go.Proofs.YtgkmbhllcekagaaGreatDoor.AM
/- Calls that only read what they are handed, rows of one's own among it; copies into a variable's array; keys that are arrays. -/
namespace Go.Proofs.YtgkmbhllcekagaaGreatDoor.AM
open Go
/-! ### Calls that only read -/
section
variable {P:Program}{β α:Type}{m:α→Option β}{Φ:β→Prop}{ops rest:List Oper}{K:AS→Prop}{E:AV→List Obj→Prop}{n d g:Nat}{o:List (Nat × AV)}{objs:List Obj}{ty:TypeId}{pos:String}{af:Array Edge}{gd:Option (Nat × Bool)}
  {cal:Operand}{args:Array Operand}{at':Array TypeId}{first cap args':List AV}{e:Option α}{X:α→AV}{O:α→List Obj}{enc:α→AV}{ob:α→List Obj}
end
/-! ### A copy into a variable's array -/
section
variable {P:Program}{β α κ:Type}{m:κ→Option β}{Φ:β→Prop}{ops rest:List Oper}{K:AS→Prop}{E:AV→List Obj→Prop}{n d:Nat}{o:List (Nat × AV)}{objs:List Obj}{ty:TypeId}{pos:String}{af:Array Edge}{gd:Option (Nat × Bool)}
  {x y:Operand}{t t2 e:TypeId}{i j:TI}{k q:Nat}{tk:Tk}{c:α→List D}{cA:κ→List D}{arr:List α→κ}{olds l:List α}{enc:κ→AV}{ob:κ→List Obj}
end
end Go.Proofs.YtgkmbhllcekagaaGreatDoor.AM
/- Rows handed over whole, at a function's start; stores into a row of one's own; slices.Insert as a model. -/
namespace Go.Proofs.YtgkmbhllcekagaaGreatDoor.AM
open Go
section
variable {P:Program}{n0 n d k:Nat}{Q:AX→AS→Prop}{E:AV→List Obj→Prop}{β α:Type}{m:Option β}{mz:List α→Option β}{Φ:β→Prop}{s:AS}{K:AS→Prop}{o:List (Nat × AV)}{objs pre:List Obj}
  {t ty:TypeId}{x y:Operand}{pos:String}{af:Array Edge}{c:α→List D}{l:List α}{v r:α}{p off sz e m':Nat}{xs:List AV}{ds:List D}{j:TI}{enc:List α→AV}{ob:List α→List Obj}
end
section
variable {P:Program}{n:Nat}{o:List (Nat × AV)}{objs objs':List Obj}{x y:Operand}{t:TypeId}{i:TI}{k:Nat}{cells xs:List AV}
theorem HI (cells xs:List AV) (h:xs.length=cells.length):setFrom cells 0 xs=xs:=by
  rw [Fx _ _ _ (by omega),List.take_zero,List.nil_append,Nat.zero_add,h,List.drop_length,List.append_nil]
theorem DX (hb:Nat.ble 9 i.size=true) (ht:ti P t=some i) (hx:evo n o x=.ptr k 0) (ho:objs[k]?=some (.box cells)) (hy:hU (evo n o y)=some xs) (hl:Nat.beq xs.length i.size=true) (hl2:Nat.beq xs.length cells.length=true) (ho':objs.set k (.box xs)=objs') :
    Eff P (.store t x y) n o objs .any objs':=by
  have e1:=Nat.eq_of_beq_eq_true hl
  have e2:=Nat.eq_of_beq_eq_true hl2
  refine ⟨?_⟩; intro p N E hp hN; unfold aop; rw [hp]; dsimp only; rw [aX,aX,hx]; unfold sD; rw [ht,hy]; dsimp only; rw [ho]; dsimp only
  refine ⟨e1,by omega,?_⟩
  rw [HI _ _ e2,ho']; exact hN
theorem Sp (hb:Nat.ble 9 i.size=true) (ht:ti P t=some i) (ha:i.isAgg=true) (hx:evo n o x=.ptr k 0) (ho:objs[k]?=some (.box cells)) (hl:Nat.beq cells.length i.size=true):Val P (.load t x) n o objs (.agg cells):=by
  have e1:=Nat.eq_of_beq_eq_true hl
  refine ⟨?_⟩; intro p N E hp hN; unfold aop; rw [hp]; dsimp only; rw [aX,hx]; unfold jJ; rw [ht]; dsimp only; rw [ho]; dsimp only
  refine ⟨by omega,?_⟩
  rw [if_pos ha,List.drop_zero,← e1,List.take_length]; exact hN
end
end Go.Proofs.YtgkmbhllcekagaaGreatDoor.AM
/- What slices.Insert is walked with: copies between rows of several cells, two slices apart, and what the end of it leaves. -/
namespace Go.Proofs.YtgkmbhllcekagaaGreatDoor.AM
open Go Go.Lib
end Go.Proofs.YtgkmbhllcekagaaGreatDoor.AM
/- Package variables that were laid and stay: an element by its place. -/
namespace Go.Proofs.YtgkmbhllcekagaaGreatDoor.AM
open Go
section
variable {P:Program}{n:Nat}{o:List (Nat × AV)}{objs:List Obj}{t:TypeId}{y:Operand}
theorem M3 {α:Type}{c:α→List D}{l:List α}{i j:TI}{e:TypeId}{len g:Nat}{q:IntKind}{k:Int}{r:α} (ht:ti P t=some i) (hd:i.desc=.array len e) (hj:ti P e=some j) (hg:Ae g=some (l.map c)) (hl:l.length=len)
    (hy:evo n o y=.v (.int q k)) (h0:0≤k) (hr:l[k.toNat]?=some r) (hz:∀ x,(c x).length=j.size) :
    Val P (.indexAddr t (.global g) y) n o objs (.ep (l.map c) k.toNat 0 .none):=by
  have hlt:=(List.getElem?_eq_some_iff.1 hr).1
  have hx:(st n o objs).eval (.global g)=.ep (l.map c) 0 0 .none:=by
    show xL g=_
    unfold xL; rw [hg]
  refine ⟨?_⟩; intro p N E hp hN; unfold aop; rw [hp]; dsimp only; rw [hx,aX,hy]; unfold jM; rw [ht]; dsimp only; rw [hd]; dsimp only; rw [hj]; dsimp only
  refine ⟨h0,by omega,.inr ⟨rfl,by rw [List.length_map]; omega,?_,?_⟩⟩
  · cases l with
    | nil=>simp at hlt
    | cons a l=>exact hz a
  · rw [Nat.zero_add]; exact hN
end
end Go.Proofs.YtgkmbhllcekagaaGreatDoor.AM
