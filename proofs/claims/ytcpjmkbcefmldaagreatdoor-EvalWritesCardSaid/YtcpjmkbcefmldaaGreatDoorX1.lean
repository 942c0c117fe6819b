/- A part of the proof: X1, X2, X3, X4, X5, X6, X7, X8, X9, X10, X11, X12, X13, X14, X15, X16, X17. -/
import Derived.Test.YtcpjmkbcefmldaaGreatDoorA3
set_option linter.all false
/- A function's model: a plain function of an answer that may fail; where it answers, the function answers so. -/
namespace Go.Proofs.YtcpjmkbcefmldaaGreatDoor.AM
open Go

/-! ### What models are made of -/

def letE {α β : Type} (_enc : α → AV) (e : α) (m : α → Option β) : Option β := m e
def letO {α β : Type} (_enc : α → AV) (_ob : α → List Obj) (e : α) (m : α → Option β) : Option β := m e
def gdM {β : Type} (p : Prop) [Decidable p] (m : Option β) : Option β := if p then m else none
def iteM {β : Type} (b : Bool) (x y : Option β) : Option β := if b = true then x else y
def callM {α β : Type} (_enc : α → AV) (_ob : α → List Obj) (e : Option α) (m : α → Option β) : Option β := e.bind m
def idxM {α β : Type} (l : List α) (i : Int) (m : α → Option β) : Option β := if 0 ≤ i then (l[i.toNat]?).bind m else none
def exitM {σ β : Type} (m : Option β) : Option (σ ⊕ β) := m.map .inr
def nextM {σ β : Type} (x : σ) : Option (σ ⊕ β) := some (.inl x)
def retM {β : Type} (x : β) : Option β := some x
def tokM {β : Type} (_d _sz _e : Nat) (m : Option β) : Option β := m
def joinM {σ β : Type} (_ph : σ → List (Nat × AV)) (_ob : σ → List Obj) (rest : σ → Option β) (m : Option (σ ⊕ β)) : Option β := m.bind (Sum.elim rest some)

def iterN {σ β : Type} (step : σ → Option (σ ⊕ β)) : Nat → σ → Option β
  | 0, _ => none
  | n + 1, s => (step s).bind (Sum.elim (iterN step n) some)

open Classical in
noncomputable def iter {σ β : Type} (step : σ → Option (σ ⊕ β)) (s : σ) : Option β :=
  if h : ∃ n, (iterN step n s).isSome = true then iterN step (Classical.choose h) s else none

noncomputable def loopM {σ β : Type} (_ph : σ → List (Nat × AV)) (_ob : σ → List Obj) (step : σ → Option (σ ⊕ β)) (s : σ) : Option β := iter step s

theorem iterN_mono {σ β : Type} {step : σ → Option (σ ⊕ β)} : ∀ {n : Nat} {s : σ} {r : β}, iterN step n s = some r → ∀ k, n ≤ k → iterN step k s = some r
  | 0, _, _, h, _, _ => by cases h
  | n + 1, s, r, h, k, hk => by
    match k, hk with
    | k + 1, hk =>
      simp only [iterN] at h ⊢
      cases hs : step s with
      | none => rw [hs] at h; cases h
      | some y =>
        rw [hs] at h
        cases y with
        | inl s' => exact iterN_mono (n := n) h k (by omega)
        | inr b => exact h

theorem iter_some {σ β : Type} {step : σ → Option (σ ⊕ β)} {s : σ} {r : β} : iter step s = some r ↔ ∃ n, iterN step n s = some r := by
  unfold iter
  constructor
  · intro h
    split at h
    · exact ⟨_, h⟩
    · cases h
  · rintro ⟨n, hn⟩
    have he : ∃ n, (iterN step n s).isSome = true := ⟨n, by rw [hn]; rfl⟩
    rw [dif_pos he]
    have hc := Classical.choose_spec he
    generalize Classical.choose he = m at *
    cases hm : iterN step m s with
    | none => rw [hm] at hc; cases hc
    | some q =>
      rcases Nat.le_total n m with h | h
      · have := iterN_mono hn m h
        rw [this] at hm; exact hm ▸ rfl
      · have := iterN_mono hm n h
        rw [this] at hn; exact hn ▸ rfl

theorem iter_eq {σ β : Type} (step : σ → Option (σ ⊕ β)) (s : σ) : iter step s = (step s).bind (Sum.elim (iter step) some) := by
  apply Option.ext
  intro r
  rw [iter_some]
  constructor
  · rintro ⟨n, hn⟩
    cases n with
    | zero => cases hn
    | succ n =>
      simp only [iterN] at hn
      cases hs : step s with
      | none => rw [hs] at hn; cases hn
      | some y =>
        rw [hs] at hn
        cases y with
        | inl s' => exact iter_some.2 ⟨n, hn⟩
        | inr b => exact hn
  · intro h
    cases hs : step s with
    | none => rw [hs] at h; cases h
    | some y =>
      rw [hs] at h
      cases y with
      | inl s' =>
        obtain ⟨n, hn⟩ := iter_some.1 h
        exact ⟨n + 1, by simp only [iterN, hs]; exact hn⟩
      | inr b => exact ⟨1, by simp only [iterN, hs]; exact h⟩

theorem iter_rec {σ β : Type} {step : σ → Option (σ ⊕ β)} (I : σ → Prop) (μ : σ → Nat) (F : σ → β)
    (h : ∀ s, I s → step s = some (.inr (F s)) ∨ ∃ s', step s = some (.inl s') ∧ I s' ∧ μ s' < μ s ∧ F s' = F s) : ∀ s, I s → iter step s = some (F s) := by
  have key : ∀ n s, μ s < n → I s → iter step s = some (F s) := by
    intro n
    induction n with
    | zero => intro s hn; omega
    | succ n ih =>
      intro s hn hi
      rw [iter_eq]
      rcases h s hi with h | ⟨s', h, hi', hm, hF⟩
      · rw [h]; rfl
      · rw [h]
        show iter step s' = _
        rw [ih s' (by omega) hi', hF]
  exact fun s hi => key _ s (Nat.lt_succ_self _) hi

/-! ### The judgement -/

def H {β : Type} (m : Option β) (Φ : β → Prop) (G : Prop) : Prop := ∀ y, m = some y → Φ y → G

section
variable {β : Type} {m m1 m2 : Option β} {Φ : β → Prop} {G : Prop}

theorem H_ret {v r : β} (h : v = r → G) : H (retM v) (fun y => y = r) G := fun y hy hr => h (by cases hy; exact hr)
theorem H_iteM {b : Bool} (h1 : b = true → H m1 Φ G) (h2 : b = false → H m2 Φ G) : H (iteM b m1 m2) Φ G := by
  intro y hy hp
  unfold iteM at hy
  cases b with
  | true => exact h1 rfl y (by simpa using hy) hp
  | false => exact h2 rfl y (by simpa using hy) hp
theorem H_gdM {p : Prop} [Decidable p] (h : p → H m Φ G) : H (gdM p m) Φ G := by
  intro y hy hp
  unfold gdM at hy
  split at hy
  · rename_i hpp; exact h hpp y hy hp
  · cases hy
theorem H_idxM {α : Type} {l : List α} {i : Int} {m : α → Option β} (h : ∀ p, 0 ≤ i → l[i.toNat]? = some p → H (m p) Φ G) : H (idxM l i m) Φ G := by
  intro y hy hp
  unfold idxM at hy
  split at hy
  · rename_i h0
    cases hl : l[i.toNat]? with
    | none => rw [hl] at hy; cases hy
    | some p => rw [hl] at hy; exact h p h0 hl y hy hp
  · cases hy
theorem H_exitM {σ : Type} {Ψ : σ → Prop} (h : H m Φ G) : H (exitM m : Option (σ ⊕ β)) (Sum.elim Ψ Φ) G := by
  intro y hy hp
  unfold exitM at hy
  cases hm : m with
  | none => rw [hm] at hy; cases hy
  | some z => rw [hm] at hy; cases hy; exact h z hm hp
end

/-! ### Ends of parts of code -/

section
variable {P : Program} {n0 n : Nat} {Q : AX → AS → Prop} {E : AV → List Obj → Prop} {β : Type} {m : Option β} {Φ : β → Prop} {s : AS}

theorem R_seq {a b : Code} (h : H m Φ (awp P n0 a s (seqQ n0 (fun s' => awp P n0 b s' Q E) Q) E)) : H m Φ (awp P n0 (.seq a b) s Q E) := h
theorem R_seqn {next : AS → Prop} (h : H m Φ (next s)) : H m Φ (seqQ n0 next Q .normal s) := fun y h1 h2 => WeakS.of (Weak.refl _ _) (h y h1 h2)
theorem R_seqe {next : AS → Prop} {i : Nat} (h : H m Φ (Q (.exit i) s)) : H m Φ (seqQ n0 next Q (.exit i) s) := h
theorem R_seqr {next : AS → Prop} (h : H m Φ (Q .ret s)) : H m Φ (seqQ n0 next Q .ret s) := h
theorem R_block {c : Code} {i : Nat} (h : H m Φ (awp P n0 c s (blockQ i Q) E)) : H m Φ (awp P n0 (.block i c) s Q E) := h
theorem R_blockn {i : Nat} (h : H m Φ (Q .normal s)) : H m Φ (blockQ i Q .normal s) := h
theorem R_blockr {i : Nat} (h : H m Φ (Q .ret s)) : H m Φ (blockQ i Q .ret s) := h
theorem R_blocke {i : Nat} (h : H m Φ (Q .normal s)) : H m Φ (blockQ i Q (.exit i) s) := fun y h1 h2 => bQ_e (h y h1 h2)
theorem R_skip (h : H m Φ (Q .normal s)) : H m Φ (awp P n0 .skip s Q E) := h
theorem R_exit {i : Nat} (h : H m Φ (Q (.exit i) s)) : H m Φ (awp P n0 (.exit i) s Q E) := h
theorem R_retc (h : H m Φ (Q .ret s)) : H m Φ (awp P n0 .ret s Q E) := h
theorem R_condT {c : Operand} {t e : Code} (hc : s.eval c = .v (.bool true)) (h : H m Φ (awp P n0 t s Q E)) : H m Φ (awp P n0 (.cond c t e) s Q E) :=
  fun y h1 h2 => awp_cond hc (fun _ => h y h1 h2) (fun h => by cases h)
theorem R_condF {c : Operand} {t e : Code} (hc : s.eval c = .v (.bool false)) (h : H m Φ (awp P n0 e s Q E)) : H m Φ (awp P n0 (.cond c t e) s Q E) :=
  fun y h1 h2 => awp_cond hc (fun h => by cases h) (fun _ => h y h1 h2)
theorem R_region {id : Nat} {l : List Oper} (h : H m Φ (aops P l l s (Q .normal) E)) : H m Φ (awp P n0 (.region id l.toArray false) s Q E) := fun y h1 h2 => awp_region (h y h1 h2)
theorem R_regionQ {id : Nat} {l : List Oper} (e1 : P.follows .mixedOrders = true) (e2 : Region.lexB .any l.toArray = true) (h : H m Φ (aopsQ P l l s (Q .normal))) : H m Φ (awp P n0 (.region id l.toArray true) s Q E) := fun y h1 h2 => awp_regionQ e1 e2 (h y h1 h2)
theorem R_regionC {id : Nat} {l : List Oper} (e1 : P.follows .mixedOrders = true) (e2 : Region.lexB .any l.toArray = true) (h : H m Φ (aopsC P l.toArray l s (Q .normal))) : H m Φ (awp P n0 (.region id l.toArray true) s Q E) := fun y h1 h2 => awp_regionC e1 e2 (h y h1 h2)
theorem R_loop {σ : Type} {ph : σ → List (Nat × AV)} {ob : σ → List Obj} {step : σ → Option (σ ⊕ β)} {s0 : σ} {c : Code} (hw : Weak n0 s ⟨ov n (ph s0), ob s0⟩)
    (hb : ∀ (Ψ : σ → Prop) (I : Nat → AS → Prop) (k : Nat), (∀ x', Ψ x' → ∀ s', Weak n0 s' ⟨ov n (ph x'), ob x'⟩ → loopQ n0 I k Q .normal s') →
      ∀ x, H (step x) (Sum.elim Ψ Φ) (awp P n0 c ⟨ov n (ph x), ob x⟩ (loopQ n0 I k Q) E)) : H (loopM ph ob step s0) Φ (awp P n0 (.loop c) s Q E) := by
  intro y hy hp
  obtain ⟨N, hN⟩ := iter_some.1 (show iter step s0 = some y from hy)
  refine ⟨fun k s' => ∃ x, iterN step k x = some y ∧ s' = ⟨ov n (ph x), ob x⟩, ⟨N, _, hw, s0, hN, rfl⟩, ?_⟩
  rintro k s' ⟨x, hx, rfl⟩
  cases k with
  | zero => cases hx
  | succ k =>
    simp only [iterN] at hx
    cases hs : step x with
    | none => rw [hs] at hx; cases hx
    | some z =>
      rw [hs] at hx
      refine hb (fun x' => iterN step k x' = some y) _ _ ?_ x z hs ?_
      · intro x' hx' s' hw'
        exact ⟨k, _, hw', Nat.lt_succ_self _, x', hx', rfl⟩
      · cases z with
        | inl x' => exact hx
        | inr b => simp at hx; subst hx; exact hp

theorem R_next {σ : Type} {ph : σ → List (Nat × AV)} {ob : σ → List Obj} {Ψ : σ → Prop} {N : AS → Prop} {x' : σ}
    (hN : ∀ x', Ψ x' → ∀ s', Weak n0 s' ⟨ov n (ph x'), ob x'⟩ → N s') (hw : Weak n0 s ⟨ov n (ph x'), ob x'⟩) : H (nextM x' : Option (σ ⊕ β)) (Sum.elim Ψ Φ) (N s) := by
  intro y hy hp
  cases hy
  exact hN x' hp s hw

theorem R_join {σ : Type} {ph : σ → List (Nat × AV)} {ob : σ → List Obj} {rest : σ → Option β} {m : Option (σ ⊕ β)} {a b : Code}
    (hm : ∀ (Ψ : σ → Prop) (N : AS → Prop), (∀ x', Ψ x' → ∀ s', Weak n0 s' ⟨ov n (ph x'), ob x'⟩ → seqQ n0 N Q .normal s') → H m (Sum.elim Ψ Φ) (awp P n0 a s (seqQ n0 N Q) E))
    (hr : ∀ x, H (rest x) Φ (awp P n0 b ⟨ov n (ph x), ob x⟩ Q E)) : H (joinM ph ob rest m) Φ (awp P n0 (.seq a b) s Q E) := by
  intro y hy hp
  cases hmm : m with
  | none => rw [hmm] at hy; cases hy
  | some z =>
    rw [hmm] at hy
    refine hm (fun x' => rest x' = some y) (fun s' => awp P n0 b s' Q E) ?_ z hmm ?_
    · intro x' hx' s' hw
      exact WeakS.of hw (hr x' y hx' hp)
    · cases z with
      | inl x' => exact hy
      | inr v => cases hy; exact hp
end

/-! ### Steps in a region -/

def AopS (P : Program) (o : Oper) (s s' : AS) : Prop := ∀ (N : AS → Prop) (E : AV → List Obj → Prop), N s' → aop P o s N E

section
variable {P : Program} {β : Type} {m : Option β} {Φ : β → Prop} {ops rest : List Oper} {K : AS → Prop} {E : AV → List Obj → Prop} {o : Oper} {s s' : AS}

theorem S_run (hg : o.guard = none) (hop : AopS P o s s') (h : H m Φ (aops P ops rest s' K E)) : H m Φ (aops P ops (o :: rest) s K E) := by
  intro y h1 h2
  show guardAV P ops s o _ _ _
  unfold guardAV
  rw [hg]
  exact hop _ _ (h y h1 h2)
theorem S_runQ (hg : o.guard = none) (hq : isQ o.op = true) (hop : AopS P o s s') (h : H m Φ (aopsQ P ops rest s' K)) : H m Φ (aopsQ P ops (o :: rest) s K) := by
  intro y h1 h2
  refine ⟨hq, ?_⟩
  unfold guardAV
  rw [hg]
  exact hop _ _ (h y h1 h2)
theorem S_on {j : Nat} {want : Bool} (hg : o.guard = some (j, want)) (hc : gcond ops s j want = some true) (ht : totO P s o.op = none) (hop : AopS P o s s') (h : H m Φ (aops P ops rest s' K E)) : H m Φ (aops P ops (o :: rest) s K E) := by
  intro y h1 h2
  show guardAV P ops s o _ _ _
  unfold guardAV
  rw [hg]
  dsimp only
  rw [hc]
  dsimp only
  rw [ht]
  dsimp only
  exact ⟨fun _ => hop _ _ (h y h1 h2), fun h => (by cases h)⟩
theorem S_off {j : Nat} {want : Bool} (hg : o.guard = some (j, want)) (hc : gcond ops s j want = some false) (ht : totO P s o.op = none) (h : H m Φ (aops P ops rest (s.put o.dst (.cnd false .any)) K E)) : H m Φ (aops P ops (o :: rest) s K E) := by
  intro y h1 h2
  show guardAV P ops s o _ _ _
  unfold guardAV
  rw [hg]
  dsimp only
  rw [hc]
  dsimp only
  rw [ht]
  dsimp only
  exact ⟨fun h => (by cases h), fun _ => h y h1 h2⟩
theorem S_tot {j : Nat} {want g c : Bool} {v : AV} (hg : o.guard = some (j, want)) (hc : gcond ops s j want = some g) (ht : totO P s o.op = some (c, v)) (hi : g = true → c = true) (h : H m Φ (aops P ops rest (s.put o.dst (.cnd g v)) K E)) : H m Φ (aops P ops (o :: rest) s K E) := by
  intro y h1 h2
  show guardAV P ops s o _ _ _
  unfold guardAV
  rw [hg]
  dsimp only
  rw [hc]
  dsimp only
  rw [ht]
  dsimp only
  exact ⟨hi, h y h1 h2⟩
theorem S_onQ {j : Nat} {want : Bool} (hg : o.guard = some (j, want)) (hc : gcond ops s j want = some true) (ht : totO P s o.op = none) (hq : isQ o.op = true) (hop : AopS P o s s') (h : H m Φ (aopsQ P ops rest s' K)) : H m Φ (aopsQ P ops (o :: rest) s K) := by
  intro y h1 h2
  refine ⟨hq, ?_⟩
  unfold guardAV
  rw [hg]
  dsimp only
  rw [hc]
  dsimp only
  rw [ht]
  dsimp only
  exact ⟨fun _ => hop _ _ (h y h1 h2), fun h => (by cases h)⟩
theorem S_offQ {j : Nat} {want : Bool} (hg : o.guard = some (j, want)) (hc : gcond ops s j want = some false) (ht : totO P s o.op = none) (hq : isQ o.op = true) (h : H m Φ (aopsQ P ops rest (s.put o.dst (.cnd false .any)) K)) : H m Φ (aopsQ P ops (o :: rest) s K) := by
  intro y h1 h2
  refine ⟨hq, ?_⟩
  unfold guardAV
  rw [hg]
  dsimp only
  rw [hc]
  dsimp only
  rw [ht]
  dsimp only
  exact ⟨fun h => (by cases h), fun _ => h y h1 h2⟩
theorem S_totQ {j : Nat} {want g c : Bool} {v : AV} (hg : o.guard = some (j, want)) (hc : gcond ops s j want = some g) (ht : totO P s o.op = some (c, v)) (hq : isQ o.op = true) (hi : g = true → c = true) (h : H m Φ (aopsQ P ops rest (s.put o.dst (.cnd g v)) K)) : H m Φ (aopsQ P ops (o :: rest) s K) := by
  intro y h1 h2
  refine ⟨hq, ?_⟩
  unfold guardAV
  rw [hg]
  dsimp only
  rw [hc]
  dsimp only
  rw [ht]
  dsimp only
  exact ⟨hi, h y h1 h2⟩
theorem S_runC {ops : Array Oper} {y : AV} {L : List Nat} {s1 : AS} (hg : o.guard = none) (hL : o.looksAt ops = L) (h1 : s.keep L = s1) (hop : AopS P o s1 (s1.put o.dst y)) (h : H m Φ (aopsC P ops rest (s.put o.dst y) K)) : H m Φ (aopsC P ops (o :: rest) s K) := by
  intro z k1 k2
  subst hL; subst h1
  exact ⟨y, by unfold YA; rw [hg]; exact hop _ _ rfl, h z k1 k2⟩

theorem S_runCG {ops : Array Oper} {v : AV} {L : List Nat} {s1 : AS} {j : Nat} {want g : Bool} (hg : o.guard = some (j, want)) (hL : o.looksAt ops = L) (h1 : s.keep L = s1) (hc : gcond ops.toList s1 j want = some g)
    (hop : (g = true → AopS P o s1 (s1.put o.dst v)) ∨ ∃ h, totO P s1 o.op = some (h, v) ∧ (g = true → h = true)) (h : H m Φ (aopsC P ops rest (s.put o.dst (.cnd g v)) K)) : H m Φ (aopsC P ops (o :: rest) s K) := by
  intro z k1 k2
  subst hL; subst h1
  refine ⟨.cnd g v, ?_, h z k1 k2⟩
  unfold YA; rw [hg]
  refine ⟨g, v, rfl, hc, ?_⟩
  rcases hop with h | h
  · exact .inl fun hg => h hg _ _ rfl
  · exact .inr h

end
end Go.Proofs.YtcpjmkbcefmldaaGreatDoor.AM

/- What single operations yield, for the models. -/
namespace Go.Proofs.YtcpjmkbcefmldaaGreatDoor.AM
open Go

/-! ### Values of models -/

abbrev Str := List UInt8
def bs (l : Str) : ByteArray := ⟨⟨l⟩⟩
def ltS (a b : Str) : Bool := Op.bytesLess a b
abbrev wI (x : Int) : Int := IntKind.i64.wrap x
def vI (x : Int) : AV := .v (.int .i64 x)
def vK (q : IntKind) (x : Int) : AV := .v (.int q x)
def vB (x : Bool) : AV := .v (.bool x)
def vS (x : Str) : AV := .v (.string (bs x))
def sl {α : Type} (c : α → List D) (l : List α) : AV := .sl (l.map c) .none
def sx {α : Type} (c : α → List D) (l : List α) : AV := .sl (l.map c) .exact
def so {α : Type} (o : Nat) (c : α → List D) (l : List α) : AV := .sl (l.map c) (.own o)
def ag {α : Type} (c : α → List D) (x : α) : AV := .agg ((c x).map .ofD)
def cI (x : Int) : List D := [.v (.int .i64 x)]
def cK (q : IntKind) (x : Int) : List D := [.v (.int q x)]
def cB (x : Bool) : List D := [.v (.bool x)]
def cS (x : Str) : List D := [.v (.string (bs x))]
def cL {α : Type} (c : α → List D) (l : List α) : List D := [.sl (l.map c)]
def tk (l sz e : Nat) : Obj := .tok l sz e true

theorem bs_inj {a b : Str} : bs a = bs b ↔ a = b := by
  constructor
  · intro h; cases h; rfl
  · rintro rfl; rfl
theorem bs_size (a : Str) : (bs a).size = a.length := rfl
theorem bs_append (a b : Str) : bs a ++ bs b = bs (a ++ b) := by
  apply ByteArray.ext
  show (bs a ++ bs b).data = _
  simp [bs]
theorem bs_extract (a : Str) (l h : Nat) : (bs a).extract l h = bs ((a.take h).drop l) := by
  apply ByteArray.ext
  rw [ByteArray.data_extract]
  apply Array.ext'
  simp [bs, List.extract_eq_take_drop, List.drop_take]
theorem bs_get (a : Str) {i : Nat} {c : UInt8} (h : a[i]? = some c) : (bs a).get! i = c := by
  have hi : i < a.length := (List.getElem?_eq_some_iff.1 h).1
  rw [AM.get!_eq (bs a) i hi]
  exact (List.getElem?_eq_some_iff.1 h).2

def bAnd (q : IntKind) (a b : Int) : Int := q.wrap (BitVec.ofInt q.bits a &&& BitVec.ofInt q.bits b).toNat
def bOr (q : IntKind) (a b : Int) : Int := q.wrap (BitVec.ofInt q.bits a ||| BitVec.ofInt q.bits b).toNat
def bXor (q : IntKind) (a b : Int) : Int := q.wrap (BitVec.ofInt q.bits a ^^^ BitVec.ofInt q.bits b).toNat
def bNot (q : IntKind) (n : Int) : Int := q.wrap (BitVec.ofInt q.bits (if q.signed then -1 else q.max) ^^^ BitVec.ofInt q.bits n).toNat

def evo (n : Nat) (o : List (Nat × AV)) : Operand → AV
  | .tmp t => (if t < n then og o t else .any).un
  | .const v => AV.ofValue v
  | .func f => .fn f [] []
  | .global g => glAV g
def rawo (n : Nat) (o : List (Nat × AV)) : Operand → AV
  | .tmp t => if t < n then og o t else .any
  | .const v => AV.ofValue v
  | .func f => .fn f [] []
  | .global g => glAV g

abbrev st (n : Nat) (o : List (Nat × AV)) (objs : List Obj) : AS := ⟨ov n o, objs⟩
theorem eval_st (n : Nat) (o : List (Nat × AV)) (objs : List Obj) (x : Operand) : (st n o objs).eval x = evo n o x := by
  cases x with
  | tmp t => exact eval_ov n o objs t
  | _ => rfl
theorem raw_st (n : Nat) (o : List (Nat × AV)) (objs : List Obj) (x : Operand) : (st n o objs).raw x = rawo n o x := by
  cases x with
  | tmp t => exact raw_ov n o objs t
  | _ => rfl

structure Val (P : Program) (op : Op) (n : Nat) (o : List (Nat × AV)) (objs : List Obj) (v : AV) : Prop where
  run : ∀ (p : Oper) (N : AS → Prop) (E : AV → List Obj → Prop), p.op = op → N ((st n o objs).put p.dst v) → aop P p (st n o objs) N E
structure Eff (P : Program) (op : Op) (n : Nat) (o : List (Nat × AV)) (objs : List Obj) (v : AV) (objs' : List Obj) : Prop where
  run : ∀ (p : Oper) (N : AS → Prop) (E : AV → List Obj → Prop), p.op = op → N { (st n o objs).put p.dst v with objs := objs' } → aop P p (st n o objs) N E

section
variable {P : Program} {n : Nat} {o : List (Nat × AV)} {objs : List Obj} {x y z : Operand} {t t' : TypeId}

theorem V_mv {v : AV} (h : evo n o x = v) : Val P (.move x) n o objs v := by
  refine ⟨?_⟩; intro p N E hp hN; unfold aop; rw [hp]; dsimp only; rw [eval_st, h]; exact hN
theorem V_as {v : AV} (h : evo n o x = v) : Val P (.assign x) n o objs v := by
  refine ⟨?_⟩; intro p N E hp hN; unfold aop; rw [hp]; dsimp only; rw [eval_st, h]; exact hN

theorem V_pick {b g h p q : Bool} (hc : evo n o x = .v (.bool b)) (hx : (rawo n o y).boolUn = some (g, p)) (hy : (rawo n o z).boolUn = some (h, q)) (h1 : b = true → g = true) (h2 : b = false → h = true) :
    Val P (.pick x y z) n o objs (.v (.bool (bif b then p else q))) := by
  refine ⟨?_⟩; intro p N E hp hN; unfold aop; rw [hp]; dsimp only; rw [eval_st, raw_st, raw_st, hc]; unfold pickAV; rw [hx, hy]; exact ⟨h1, h2, hN⟩
theorem V_pickT {p : Bool} (hc : evo n o x = .v (.bool true)) (hx : (rawo n o y).boolUn = some (true, p)) :
    Val P (.pick x y z) n o objs (.v (.bool p)) := by
  refine ⟨?_⟩; intro p N E hp hN; unfold aop; rw [hp]; dsimp only; rw [eval_st, raw_st, raw_st, hc]; unfold pickAV; rw [hx]
  cases (rawo n o z).boolUn with
  | none => exact ⟨rfl, rfl, hN⟩
  | some q => exact ⟨fun _ => rfl, fun h => (by cases h), hN⟩
theorem V_pickF {q : Bool} (hc : evo n o x = .v (.bool false)) (hy : (rawo n o z).boolUn = some (true, q)) :
    Val P (.pick x y z) n o objs (.v (.bool q)) := by
  refine ⟨?_⟩; intro p N E hp hN; unfold aop; rw [hp]; dsimp only; rw [eval_st, raw_st, raw_st, hc]; unfold pickAV; rw [hy]
  cases (rawo n o y).boolUn with
  | none => exact ⟨rfl, rfl, hN⟩
  | some q => exact ⟨fun h => (by cases h), fun _ => rfl, hN⟩

theorem bin_of {op : BinOp} {a b v : Value} (hab : ∀ c d, ¬ (a = .bool c ∧ b = .bool d)) (hx : evo n o x = .v a) (hy : evo n o y = .v b) (h : ∀ k : Value → Prop, k v → sbin op a b k) : Val P (.binOp op t x y t') n o objs (.v v) := by
  refine ⟨?_⟩; intro p N E hp hN; unfold aop; rw [hp]; dsimp only; rw [eval_st, eval_st, hx, hy]; unfold binAV
  split
  · rename_i e1 e2; cases e1; cases e2; exact (hab _ _ ⟨rfl, rfl⟩).elim
  · rename_i e1 e2; cases e1; cases e2; exact h (fun r => N ((st n o objs).put p.dst (.v r))) hN
  · rename_i e1 e2; cases e1
  · rename_i e1 e2; cases e1
  · rename_i h1 _ _; exact (h1 _ _ rfl rfl).elim

section
variable {q : IntKind} {a b : Int} (hx : evo n o x = .v (.int q a)) (hy : evo n o y = .v (.int q b))
include hx hy
theorem V_add : Val P (.binOp .add t x y t') n o objs (.v (.int q (q.wrap (a + b)))) := bin_of (fun _ _ h => by cases h.1) hx hy fun _ h => ⟨rfl, h⟩
theorem V_sub : Val P (.binOp .sub t x y t') n o objs (.v (.int q (q.wrap (a - b)))) := bin_of (fun _ _ h => by cases h.1) hx hy fun _ h => ⟨rfl, h⟩
theorem V_mul : Val P (.binOp .mul t x y t') n o objs (.v (.int q (q.wrap (a * b)))) := bin_of (fun _ _ h => by cases h.1) hx hy fun _ h => ⟨rfl, h⟩
theorem V_quo (h0 : b ≠ 0) : Val P (.binOp .quo t x y t') n o objs (.v (.int q (q.wrap (a.tdiv b)))) := bin_of (fun _ _ h => by cases h.1) hx hy fun _ h => ⟨rfl, h0, h⟩
theorem V_rem (h0 : b ≠ 0) : Val P (.binOp .rem t x y t') n o objs (.v (.int q (a.tmod b))) := bin_of (fun _ _ h => by cases h.1) hx hy fun _ h => ⟨rfl, h0, h⟩
theorem V_eql : Val P (.binOp .eql t x y t') n o objs (.v (.bool (decide (a = b)))) := bin_of (fun _ _ h => by cases h.1) hx hy fun _ h => ⟨rfl, h⟩
theorem V_neq : Val P (.binOp .neq t x y t') n o objs (.v (.bool (!decide (a = b)))) := bin_of (fun _ _ h => by cases h.1) hx hy fun _ h => ⟨rfl, h⟩
theorem V_lss : Val P (.binOp .lss t x y t') n o objs (.v (.bool (decide (a < b)))) := bin_of (fun _ _ h => by cases h.1) hx hy fun _ h => ⟨rfl, h⟩
theorem V_leq : Val P (.binOp .leq t x y t') n o objs (.v (.bool (decide (a ≤ b)))) := bin_of (fun _ _ h => by cases h.1) hx hy fun _ h => ⟨rfl, h⟩
theorem V_gtr : Val P (.binOp .gtr t x y t') n o objs (.v (.bool (decide (b < a)))) := bin_of (fun _ _ h => by cases h.1) hx hy fun _ h => ⟨rfl, h⟩
theorem V_geq : Val P (.binOp .geq t x y t') n o objs (.v (.bool (decide (b ≤ a)))) := bin_of (fun _ _ h => by cases h.1) hx hy fun _ h => ⟨rfl, h⟩
theorem V_and : Val P (.binOp .and t x y t') n o objs (.v (.int q (bAnd q a b))) := bin_of (fun _ _ h => by cases h.1) hx hy fun _ h => ⟨rfl, h⟩
theorem V_or : Val P (.binOp .or t x y t') n o objs (.v (.int q (bOr q a b))) := bin_of (fun _ _ h => by cases h.1) hx hy fun _ h => ⟨rfl, h⟩
theorem V_xor : Val P (.binOp .xor t x y t') n o objs (.v (.int q (bXor q a b))) := bin_of (fun _ _ h => by cases h.1) hx hy fun _ h => ⟨rfl, h⟩
end
section
variable {q q' : IntKind} {a b : Int} (hx : evo n o x = .v (.int q a)) (hy : evo n o y = .v (.int q' b)) (h0 : 0 ≤ b)
include hx hy h0
theorem V_shl : Val P (.binOp .shl t x y t') n o objs (.v (.int q (q.wrap (a * 2 ^ min b.toNat q.bits)))) := bin_of (fun _ _ h => by cases h.1) hx hy fun _ h => ⟨h0, h⟩
theorem V_shr : Val P (.binOp .shr t x y t') n o objs (.v (.int q (a / 2 ^ min b.toNat q.bits))) := bin_of (fun _ _ h => by cases h.1) hx hy fun _ h => ⟨h0, h⟩
end
theorem dec_bs (a b : Str) : decide (bs a = bs b) = decide (a = b) := by rw [decide_eq_decide]; exact bs_inj
section
variable {a b : Str} (hx : evo n o x = .v (.string (bs a))) (hy : evo n o y = .v (.string (bs b)))
include hx hy
theorem V_cat (h : a.length + b.length ≤ 9223372036854775807) : Val P (.binOp .add t x y t') n o objs (.v (.string (bs (a ++ b)))) := bin_of (fun _ _ h => by cases h.1) hx hy fun k hk => ⟨h, by rw [bs_append]; exact hk⟩
theorem V_eqlS : Val P (.binOp .eql t x y t') n o objs (.v (.bool (decide (a = b)))) := bin_of (fun _ _ h => by cases h.1) hx hy fun k hk => by show k _; rw [dec_bs]; exact hk
theorem V_neqS : Val P (.binOp .neq t x y t') n o objs (.v (.bool (!decide (a = b)))) := bin_of (fun _ _ h => by cases h.1) hx hy fun k hk => by show k _; rw [dec_bs]; exact hk
theorem V_lssS : Val P (.binOp .lss t x y t') n o objs (.v (.bool (ltS a b))) := bin_of (fun _ _ h => by cases h.1) hx hy fun _ h => h
theorem V_leqS : Val P (.binOp .leq t x y t') n o objs (.v (.bool (!ltS b a))) := bin_of (fun _ _ h => by cases h.1) hx hy fun _ h => h
theorem V_gtrS : Val P (.binOp .gtr t x y t') n o objs (.v (.bool (ltS b a))) := bin_of (fun _ _ h => by cases h.1) hx hy fun _ h => h
theorem V_geqS : Val P (.binOp .geq t x y t') n o objs (.v (.bool (!ltS a b))) := bin_of (fun _ _ h => by cases h.1) hx hy fun _ h => h
end
section
variable {a b : Bool} (hx : evo n o x = .v (.bool a)) (hy : evo n o y = .v (.bool b)) (hu : P.underlying t = some .bool)
include hx hy hu
theorem V_eqlB : Val P (.binOp .eql t x y t') n o objs (.v (.bool (a == b))) := by
  refine ⟨?_⟩; intro p N E hp hN; unfold aop; rw [hp]; dsimp only; rw [eval_st, eval_st, hx, hy]; exact ⟨hu, hN⟩
theorem V_neqB : Val P (.binOp .neq t x y t') n o objs (.v (.bool (!(a == b)))) := by
  refine ⟨?_⟩; intro p N E hp hN; unfold aop; rw [hp]; dsimp only; rw [eval_st, eval_st, hx, hy]; exact ⟨hu, hN⟩
end
section
variable {xs ys : List AV} {b : Bool} (hx : evo n o x = .agg xs) (hy : evo n o y = .agg ys) (he : aeq P 9 t (.agg xs) (.agg ys) = some b) (hg : P.eqGuardType P.depth t = false)
include hx hy he hg
theorem V_eqlA : Val P (.binOp .eql t x y t') n o objs (.v (.bool b)) := by
  refine ⟨?_⟩; intro p N E hp hN; unfold aop; rw [hp]; dsimp only; rw [eval_st, eval_st, hx, hy]; unfold binAV; dsimp only; rw [he]; exact ⟨hg, hN⟩
theorem V_neqA : Val P (.binOp .neq t x y t') n o objs (.v (.bool (!b))) := by
  refine ⟨?_⟩; intro p N E hp hN; unfold aop; rw [hp]; dsimp only; rw [eval_st, eval_st, hx, hy]; unfold binAV; dsimp only; rw [he]; exact ⟨hg, hN⟩
end

theorem V_not {b : Bool} (hx : evo n o x = .v (.bool b)) : Val P (.unOp .not t x) n o objs (.v (.bool (!b))) := by
  refine ⟨?_⟩; intro p N E hp hN; unfold aop; rw [hp]; dsimp only; rw [eval_st, hx]; exact hN
theorem V_neg {q : IntKind} {a : Int} (hx : evo n o x = .v (.int q a)) : Val P (.unOp .neg t x) n o objs (.v (.int q (q.wrap (0 - a)))) := by
  refine ⟨?_⟩; intro p N E hp hN; unfold aop; rw [hp]; dsimp only; rw [eval_st, hx]; exact hN
theorem V_com {q : IntKind} {a : Int} (hx : evo n o x = .v (.int q a)) : Val P (.unOp .xor t x) n o objs (.v (.int q (bNot q a))) := by
  refine ⟨?_⟩; intro p N E hp hN; unfold aop; rw [hp]; dsimp only; rw [eval_st, hx]; exact hN

theorem V_ncp {k off : Nat} (hx : evo n o x = .ptr k off) : Val P (.nilCheck x) n o objs (.ptr k off) := by
  refine ⟨?_⟩; intro p N E hp hN; unfold aop; rw [hp]; dsimp only; rw [eval_st, hx]; exact hN
theorem V_nce {rows : List (List D)} {i off : Nat} {tg : Tk} (hx : evo n o x = .ep rows i off tg) : Val P (.nilCheck x) n o objs (.ep rows i off tg) := by
  refine ⟨?_⟩; intro p N E hp hN; unfold aop; rw [hp]; dsimp only; rw [eval_st, hx]; exact hN

/-! #### lengths -/
section
variable {ty : TypeId} {ct : Array TypeId}
theorem V_lenS {i : TI} {a : Str} (ht : ti P t = some i) (hd : i.desc = .string) (hx : evo n o x = .v (.string (bs a))) : Val P (.call ⟨.builtin .len, #[x], #[t]⟩) n o objs (.v (.int .i64 (a.length : Int))) := by
  refine ⟨?_⟩; intro p N E hp hN; unfold aop; rw [hp]; dsimp only [List.map, Array.toList]
  rw [eval_st, hx]; unfold builtinAV; dsimp only; refine Or.inl ?_; unfold lenAV; rw [ht]; dsimp only; rw [hd]; exact hN
theorem V_lenL {α : Type} {c : α → List D} {l : List α} {i : TI} {e : TypeId} {tg : Tk} (ht : ti P t = some i) (hd : i.desc = .slice e) (hx : evo n o x = .sl (l.map c) tg) : Val P (.call ⟨.builtin .len, #[x], #[t]⟩) n o objs (.v (.int .i64 (l.length : Int))) := by
  refine ⟨?_⟩; intro p N E hp hN; unfold aop; rw [hp]; dsimp only [List.map, Array.toList]
  rw [eval_st, hx]; unfold builtinAV; dsimp only; refine Or.inl ?_; unfold lenAV; rw [ht]; dsimp only; rw [hd]; intro _; rw [List.length_map]; exact hN
theorem V_len0 {i : TI} {e : TypeId} (ht : ti P t = some i) (hd : i.desc = .slice e) (hx : evo n o x = .v (.slice none 0 0)) : Val P (.call ⟨.builtin .len, #[x], #[t]⟩) n o objs (.v (.int .i64 0)) := by
  refine ⟨?_⟩; intro p N E hp hN; unfold aop; rw [hp]; dsimp only [List.map, Array.toList]
  rw [eval_st, hx]; unfold builtinAV; dsimp only; refine Or.inl ?_; unfold lenAV; rw [ht]; dsimp only; rw [hd]; exact hN
theorem V_lenB {i : TI} {e : TypeId} {k off len : Nat} (ht : ti P t = some i) (hd : i.desc = .slice e) (hx : evo n o x = .bsl k off len) : Val P (.call ⟨.builtin .len, #[x], #[t]⟩) n o objs (.v (.int .i64 (len : Int))) := by
  refine ⟨?_⟩; intro p N E hp hN; unfold aop; rw [hp]; dsimp only [List.map, Array.toList]
  rw [eval_st, hx]; unfold builtinAV; dsimp only; refine Or.inl ?_; unfold lenAV; rw [ht]; dsimp only; rw [hd]; exact hN
theorem V_lenA {i : TI} {k : Nat} {e : TypeId} (ht : ti P t = some i) (hd : i.desc = .array k e) : Val P (.call ⟨.builtin .len, #[x], #[t]⟩) n o objs (.v (.int .i64 (k : Int))) := by
  refine ⟨?_⟩; intro p N E hp hN; unfold aop; rw [hp]; dsimp only [List.map, Array.toList]
  unfold builtinAV; dsimp only; refine Or.inl ?_; unfold lenAV; rw [ht]; dsimp only; rw [hd]
  cases (st n o objs).eval x <;> exact hN
theorem V_min {q q' : IntKind} {a b : Int} (hx : evo n o x = .v (.int q a)) (hy : evo n o y = .v (.int q' b)) : Val P (.call ⟨.builtin .min, #[x, y], ct⟩) n o objs (.v (.int q (min a b))) := by
  refine ⟨?_⟩; intro p N E hp hN; unfold aop; rw [hp]; dsimp only [List.map, Array.toList]; rw [eval_st, eval_st, hx, hy]; exact hN
theorem V_max {q q' : IntKind} {a b : Int} (hx : evo n o x = .v (.int q a)) (hy : evo n o y = .v (.int q' b)) : Val P (.call ⟨.builtin .max, #[x, y], ct⟩) n o objs (.v (.int q (max a b))) := by
  refine ⟨?_⟩; intro p N E hp hN; unfold aop; rw [hp]; dsimp only [List.map, Array.toList]; rw [eval_st, eval_st, hx, hy]; exact hN
end

/-! #### parts -/
theorem V_ext {i : Nat} {cs : List AV} {v : AV} (hx : evo n o x = .tup cs) (h : cs[i]? = some v) : Val P (.extract x i) n o objs v := by
  refine ⟨?_⟩; intro p N E hp hN; unfold aop; rw [hp]; dsimp only; rw [eval_st, hx]
  exact ⟨(List.getElem?_eq_some_iff.1 h).1, by rw [List.getD_eq_getElem?_getD, h]; exact hN⟩

theorem V_fap {i j : TI} {f : Nat} {fd : Field} {k off : Nat} (ht : ti P t = some i) (hf : fieldOf i f = some fd) (hj : ti P fd.type = some j) (h0 : j.size ≠ 0) (hx : evo n o x = .ptr k off) : Val P (.fieldAddr t x f) n o objs (.ptr k (off + fd.offset)) := by
  refine ⟨?_⟩; intro p N E hp hN; unfold aop; rw [hp]; dsimp only; rw [eval_st, hx]; unfold fieldAddrAV; rw [ht]; dsimp only; rw [hf]; dsimp only; rw [hj]; exact ⟨h0, hN⟩
theorem V_fae {i j : TI} {f : Nat} {fd : Field} {k off : Nat} {rows : List (List D)} {tg : Tk} (ht : ti P t = some i) (hf : fieldOf i f = some fd) (hj : ti P fd.type = some j) (h0 : j.size ≠ 0) (hx : evo n o x = .ep rows k off tg) : Val P (.fieldAddr t x f) n o objs (.ep rows k (off + fd.offset) tg) := by
  refine ⟨?_⟩; intro p N E hp hN; unfold aop; rw [hp]; dsimp only; rw [eval_st, hx]; unfold fieldAddrAV; rw [ht]; dsimp only; rw [hf]; dsimp only; rw [hj]; exact ⟨h0, hN⟩
theorem V_fld {i j : TI} {f : Nat} {fd : Field} {cs : List AV} {v : AV} (ht : ti P t = some i) (hf : fieldOf i f = some fd) (hj : ti P fd.type = some j) (ha : j.isAgg = false) (hs : j.size = 1) (hx : evo n o x = .agg cs) (h : cs[fd.offset]? = some v) : Val P (.field t x f) n o objs v := by
  refine ⟨?_⟩; intro p N E hp hN; unfold aop; rw [hp]; dsimp only; rw [eval_st, hx]; unfold fieldAV; rw [ht]; dsimp only; rw [hf]; dsimp only; rw [hj]; dsimp only
  have hl := (List.getElem?_eq_some_iff.1 h).1
  refine ⟨by omega, ?_⟩
  rw [if_neg (by simp [ha])]
  exact ⟨by omega, by rw [List.getD_eq_getElem?_getD, h]; exact hN⟩
theorem V_fldA {i j : TI} {f : Nat} {fd : Field} {cs l : List AV} (ht : ti P t = some i) (hf : fieldOf i f = some fd) (hj : ti P fd.type = some j) (ha : j.isAgg = true) (hx : evo n o x = .agg cs) (hl : Nat.ble (fd.offset + j.size) cs.length = true) (h : (cs.drop fd.offset).take j.size = l) : Val P (.field t x f) n o objs (.agg l) := by
  refine ⟨?_⟩; intro p N E hp hN; unfold aop; rw [hp]; dsimp only; rw [eval_st, hx]; unfold fieldAV; rw [ht]; dsimp only; rw [hf]; dsimp only; rw [hj]; dsimp only
  refine ⟨Nat.le_of_ble_eq_true hl, ?_⟩
  rw [if_pos ha, h]; exact hN
theorem V_ixa {α : Type} {c : α → List D} {l : List α} {i j : TI} {e : TypeId} {tg : Tk} {q : IntKind} {k : Int} {r : α} (ht : ti P t = some i) (hd : i.desc = .slice e) (hj : ti P e = some j) (hx : evo n o x = .sl (l.map c) tg) (hy : evo n o y = .v (.int q k)) (h0 : 0 ≤ k) (hr : l[k.toNat]? = some r) (hz : (c r).length = j.size) :
    Val P (.indexAddr t x y) n o objs (.ep (l.map c) k.toNat 0 tg) := by
  refine ⟨?_⟩; intro p N E hp hN; unfold aop; rw [hp]; dsimp only; rw [eval_st, eval_st, hx, hy]; unfold indexAddrAV; rw [ht]; dsimp only; rw [hd]; dsimp only; rw [hj]; dsimp only
  have hl := (List.getElem?_eq_some_iff.1 hr).1
  refine ⟨h0, by rw [List.length_map]; omega, ?_, hN⟩
  rw [List.getD_eq_getElem?_getD, List.getElem?_map, hr]; exact hz
theorem V_ixb {i j : TI} {e : TypeId} {q : IntKind} {m off len : Nat} {k : Int} (ht : ti P t = some i) (hd : i.desc = .slice e) (hj : ti P e = some j) (hx : evo n o x = .bsl m off len) (hy : evo n o y = .v (.int q k)) (h : 0 ≤ k ∧ k < len) :
    Val P (.indexAddr t x y) n o objs (.ptr m (off + k.toNat * j.size)) := by
  refine ⟨?_⟩; intro p N E hp hN; unfold aop; rw [hp]; dsimp only; rw [eval_st, eval_st, hx, hy]; unfold indexAddrAV; rw [ht]; dsimp only; rw [hd]; dsimp only; rw [hj]; exact ⟨h.1, h.2, hN⟩
theorem V_ixp {i j : TI} {e : TypeId} {q : IntKind} {m off len : Nat} {k : Int} (ht : ti P t = some i) (hd : i.desc = .array len e) (hj : ti P e = some j) (hx : evo n o x = .ptr m off) (hy : evo n o y = .v (.int q k)) (h : 0 ≤ k ∧ k < len) :
    Val P (.indexAddr t x y) n o objs (.ptr m (off + k.toNat * j.size)) := by
  refine ⟨?_⟩; intro p N E hp hN; unfold aop; rw [hp]; dsimp only; rw [eval_st, eval_st, hx, hy]; unfold indexAddrAV; rw [ht]; dsimp only; rw [hd]; dsimp only; rw [hj]; exact ⟨h.1, h.2, hN⟩
theorem V_ixs {i : TI} {q : IntKind} {a : Str} {k : Int} {c : UInt8} (ht : ti P t = some i) (hd : i.desc = .string) (hx : evo n o x = .v (.string (bs a))) (hy : evo n o y = .v (.int q k)) (h0 : 0 ≤ k) (hr : a[k.toNat]? = some c) :
    Val P (.index t x y) n o objs (.v (.int .u8 (c.toNat : Int))) := by
  refine ⟨?_⟩; intro p N E hp hN; unfold aop; rw [hp]; dsimp only; rw [eval_st, eval_st, hx, hy]; unfold indexAV; rw [ht]; dsimp only; rw [hd]; dsimp only
  have hl := (List.getElem?_eq_some_iff.1 hr).1
  refine ⟨h0, by rw [bs_size]; omega, ?_⟩
  rw [bs_get a hr]; exact hN

/-! #### loads -/
theorem V_ldp {i : TI} {k off : Nat} {cells : List AV} {v : AV} (ht : ti P t = some i) (ha : i.isAgg = false) (hs : i.size = 1) (hx : evo n o x = .ptr k off) (ho : objs[k]? = some (.box cells)) (h : cells[off]? = some v) : Val P (.load t x) n o objs v := by
  refine ⟨?_⟩; intro p N E hp hN; unfold aop; rw [hp]; dsimp only; rw [eval_st, hx]; unfold loadAV; rw [ht]; dsimp only; rw [ho]; dsimp only
  have hl := (List.getElem?_eq_some_iff.1 h).1
  refine ⟨by omega, ?_⟩
  rw [if_neg (by simp [ha])]
  exact ⟨hs, by rw [List.getD_eq_getElem?_getD, h]; exact hN⟩
theorem V_ldpA {i : TI} {k off : Nat} {cells l : List AV} (ht : ti P t = some i) (ha : i.isAgg = true) (hx : evo n o x = .ptr k off) (ho : objs[k]? = some (.box cells)) (hl : Nat.ble (off + i.size) cells.length = true) (h : (cells.drop off).take i.size = l) : Val P (.load t x) n o objs (.agg l) := by
  refine ⟨?_⟩; intro p N E hp hN; unfold aop; rw [hp]; dsimp only; rw [eval_st, hx]; unfold loadAV; rw [ht]; dsimp only; rw [ho]; dsimp only
  refine ⟨Nat.le_of_ble_eq_true hl, ?_⟩
  rw [if_pos ha, h]; exact hN
theorem V_lde {α : Type} {c : α → List D} {l : List α} {i : TI} {k off : Nat} {tg : Tk} {r : α} {d : D} (ht : ti P t = some i) (ha : i.isAgg = false) (hs : i.size = 1) (hx : evo n o x = .ep (l.map c) k off tg) (hr : l[k]? = some r) (h : (c r)[off]? = some d) : Val P (.load t x) n o objs (.ofD d) := by
  refine ⟨?_⟩; intro p N E hp hN; unfold aop; rw [hp]; dsimp only; rw [eval_st, hx]; unfold loadAV; rw [ht]; dsimp only
  have hl := (List.getElem?_eq_some_iff.1 hr).1
  have hg : (l.map c).getD k [] = c r := by rw [List.getD_eq_getElem?_getD, List.getElem?_map, hr]; rfl
  have hl2 := (List.getElem?_eq_some_iff.1 h).1
  rw [hg]
  refine ⟨by rw [List.length_map]; omega, by omega, ?_⟩
  rw [if_neg (by simp [ha])]
  exact ⟨hs, by rw [List.getD_eq_getElem?_getD, h]; exact hN⟩
theorem V_ldev {α : Type} {c : α → List D} {l : List α} {i : TI} {k off : Nat} {tg : Tk} {r : α} {d : Value} (ht : ti P t = some i) (ha : i.isAgg = false) (hs : i.size = 1) (hx : evo n o x = .ep (l.map c) k off tg) (hr : l[k]? = some r) (h : (c r)[off]? = some (.v d)) : Val P (.load t x) n o objs (.v d) := V_lde ht ha hs hx hr h
theorem V_ldes {α : Type} {c : α → List D} {l : List α} {i : TI} {k off : Nat} {tg : Tk} {r : α} {d : List (List D)} (ht : ti P t = some i) (ha : i.isAgg = false) (hs : i.size = 1) (hx : evo n o x = .ep (l.map c) k off tg) (hr : l[k]? = some r) (h : (c r)[off]? = some (.sl d)) : Val P (.load t x) n o objs (.sl d .none) := V_lde ht ha hs hx hr h
theorem V_ldeA {α : Type} {c : α → List D} {l : List α} {i : TI} {k off : Nat} {tg : Tk} {r : α} {cs : List AV} (ht : ti P t = some i) (ha : i.isAgg = true) (hx : evo n o x = .ep (l.map c) k off tg) (hr : l[k]? = some r) (hl : Nat.ble (off + i.size) (c r).length = true) (h : (((c r).drop off).take i.size).map .ofD = cs) : Val P (.load t x) n o objs (.agg cs) := by
  refine ⟨?_⟩; intro p N E hp hN; unfold aop; rw [hp]; dsimp only; rw [eval_st, hx]; unfold loadAV; rw [ht]; dsimp only
  have hk := (List.getElem?_eq_some_iff.1 hr).1
  have hg : (l.map c).getD k [] = c r := by rw [List.getD_eq_getElem?_getD, List.getElem?_map, hr]; rfl
  rw [hg]
  refine ⟨by rw [List.length_map]; omega, Nat.le_of_ble_eq_true hl, ?_⟩
  rw [if_pos ha, h]; exact hN

/-! #### new values -/
theorem V_bld {parts : Array (Nat × Operand)} {i : TI} {cs : List AV} (ht : ti P t = some i) (ha : (match i.desc with | .struct fs => allTi P fs.toList = true | .array _ e => (ti P e).isSome = true | _ => False)) (h : fillAV (placeOf P i) (i.zero.map .v) (parts.toList.map fun p => (p.1, evo n o p.2)) = some cs) : Val P (.build t parts) n o objs (.agg cs) := by
  refine ⟨?_⟩; intro p N E hp hN; unfold aop; rw [hp]; dsimp only; unfold buildAV; rw [ht]; dsimp only
  have e : (parts.toList.map fun p => (p.1, (st n o objs).eval p.2)) = parts.toList.map fun p => (p.1, evo n o p.2) := by simp only [eval_st]
  rw [e, h]; exact ⟨ha, hN⟩
theorem V_bsl {parts : Array (Nat × Operand)} {i j : TI} {e : TypeId} {len : Nat} {out : List AV} {rows : List (List D)} (ht : ti P t = some i) (hd : i.desc = .slice e) (hj : ti P e = some j) (h0 : 0 < j.size) (h1 : len * j.size ≤ 16777216)
    (h : fillAV (fun q => some (q * j.size, j.size)) (zrep j.zero j.size len) (parts.toList.map fun p => (p.1, evo n o p.2)) = some out) (hc : chunks j.size out len = some rows) : Val P (.buildSlice t len parts) n o objs (.sl rows .exact) := by
  refine ⟨?_⟩; intro p N E hp hN; unfold aop; rw [hp]; dsimp only; refine Or.inl ?_; unfold buildSliceAV; rw [ht]; dsimp only; rw [hd]; dsimp only; rw [hj]; dsimp only
  have e : (parts.toList.map fun p => (p.1, (st n o objs).eval p.2)) = parts.toList.map fun p => (p.1, evo n o p.2) := by simp only [eval_st]
  rw [e, h]; dsimp only; rw [hc]; exact ⟨h0, h1, hN⟩
theorem V_fun {f : Nat} {first cap : Array Operand} : Val P (.makeFunc (.func f) first cap) n o objs (.fn f (first.toList.map (evo n o)) (cap.toList.map (evo n o))) := by
  refine ⟨?_⟩; intro p N E hp hN; unfold aop; rw [hp]; dsimp only
  have e : (st n o objs).eval = evo n o := funext fun x => eval_st n o objs x
  rw [e]; exact hN

/-! #### converted -/
theorem V_cvi {i j : TI} {q q' : IntKind} {a : Int} (ht : ti P t = some i) (hj : ti P t' = some j) (hd : j.desc = .int q) (hx : evo n o x = .v (.int q' a)) : Val P (.convert t t' x) n o objs (.v (.int q (q.wrap a))) := by
  refine ⟨?_⟩; intro p N E hp hN; unfold aop; rw [hp]; dsimp only; refine Or.inl ?_; rw [eval_st, hx]; unfold convAV; rw [ht, hj]; dsimp only; rw [hd]; exact hN
theorem V_cvs {i j : TI} {a : Str} (ht : ti P t = some i) (hj : ti P t' = some j) (hd : j.desc = .string) (hx : evo n o x = .v (.string (bs a))) : Val P (.convert t t' x) n o objs (.v (.string (bs a))) := by
  refine ⟨?_⟩; intro p N E hp hN; unfold aop; rw [hp]; dsimp only; refine Or.inl ?_; rw [eval_st, hx]; unfold convAV; rw [ht, hj]; dsimp only; rw [hd]; exact hN
def strOf (l : List Int) : Str := l.map fun x => UInt8.ofNat x.toNat
theorem bytesOf_map (l : List Int) : bytesOfD (l.map (cK .u8)) = some (strOf l) := by
  induction l with
  | nil => rfl
  | cons a l ih => simp only [List.map_cons, bytesOfD, ih, cK, byteOfD, strOf]
theorem V_cvb {i j ei : TI} {e : TypeId} {l : List Int} {tg : Tk} (ht : ti P t = some i) (hj : ti P t' = some j) (hd : j.desc = .string) (hi : i.desc = .slice e) (he : ti P e = some ei) (hu : ei.desc = .int .u8) (hx : evo n o x = .sl (l.map (cK .u8)) tg) : Val P (.convert t t' x) n o objs (.v (.string (bs (strOf l)))) := by
  refine ⟨?_⟩; intro p N E hp hN; unfold aop; rw [hp]; dsimp only; refine Or.inl ?_; rw [eval_st, hx]; unfold convAV; rw [ht, hj]; dsimp only; rw [hd]; dsimp only; rw [hi]; dsimp only; rw [he, bytesOf_map]; exact ⟨hu, hN⟩

/-! #### parts of slices and texts -/
theorem V_ssS {i : TI} {lo hi : Option Operand} {a : Str} {l h : Int} (ht : ti P t = some i) (hd : i.desc = .string) (hx : evo n o x = .v (.string (bs a))) (hl : ioptAV (lo.map (evo n o)) 0 = some l) (hh : ioptAV (hi.map (evo n o)) (a.length : Int) = some h) (hb : 0 ≤ l ∧ l ≤ h ∧ h ≤ (a.length : Int)) :
    Val P (.slice t x lo hi none) n o objs (.v (.string (bs ((a.take h.toNat).drop l.toNat)))) := by
  refine ⟨?_⟩; intro p N E hp hN; unfold aop; rw [hp]; dsimp only
  have e : (st n o objs).eval = evo n o := funext fun x => eval_st n o objs x
  rw [e, hx]; unfold sliceAV; rw [ht]; dsimp only; rw [hd]
  have hh' : ioptAV (hi.map (evo n o)) ((bs a).size : Int) = some h := hh
  have hl' : ioptAV (lo.map (evo n o)) 0 = some l := hl
  cases lo <;> cases hi <;> simp only [Option.map] at hl' hh' ⊢ <;> rw [hl', hh'] <;> exact ⟨hb.1, hb.2.1, hb.2.2, by rw [bs_extract]; exact hN⟩
theorem V_ssL {α : Type} {c : α → List D} {i j : TI} {e : TypeId} {lo hi : Option Operand} {s : List α} {tg : Tk} {l h : Int} (ht : ti P t = some i) (hd : i.desc = .slice e) (hj : ti P e = some j) (hz : ∀ r, (c r).length = j.size) (hx : evo n o x = .sl (s.map c) tg) (hl : ioptAV (lo.map (evo n o)) 0 = some l) (hh : ioptAV (hi.map (evo n o)) (s.length : Int) = some h) (hb : 0 ≤ l ∧ l ≤ h ∧ h ≤ (s.length : Int)) :
    Val P (.slice t x lo hi none) n o objs (.sl (((s.take h.toNat).drop l.toNat).map c) tg.sub) := by
  refine ⟨?_⟩; intro p N E hp hN; unfold aop; rw [hp]; dsimp only
  have e : (st n o objs).eval = evo n o := funext fun x => eval_st n o objs x
  rw [e, hx]; unfold sliceAV; rw [ht]; dsimp only; rw [hd]; dsimp only; rw [hj]
  have hm : ∀ r ∈ s.map c, r.length = j.size := by intro r hr; obtain ⟨q, _, rfl⟩ := List.mem_map.1 hr; exact hz q
  have hN' : N ((st n o objs).put p.dst (.sl (((s.map c).take h.toNat).drop l.toNat) tg.sub)) := by rw [← List.map_take, ← List.map_drop]; exact hN
  rw [hl, List.length_map, hh]
  exact ⟨hm, hb.1, hb.2.1, hb.2.2, hN'⟩
theorem V_ss0 {i j : TI} {e : TypeId} {lo hi : Option Operand} (ht : ti P t = some i) (hd : i.desc = .slice e) (hj : ti P e = some j) (hx : evo n o x = .v (.slice none 0 0)) (hl : ioptAV (lo.map (evo n o)) 0 = some 0) (hh : ioptAV (hi.map (evo n o)) 0 = some 0) :
    Val P (.slice t x lo hi none) n o objs (.v (.slice none 0 0)) := by
  refine ⟨?_⟩; intro p N E hp hN; unfold aop; rw [hp]; dsimp only
  have e : (st n o objs).eval = evo n o := funext fun x => eval_st n o objs x
  rw [e, hx]; unfold sliceAV; rw [ht]; dsimp only; rw [hd]; simp only [hj]; rw [hl, hh]
  exact ⟨rfl, rfl, rfl, fun h => (by cases h), hN⟩
theorem E_alloc {e : TypeId} {i : TI} {k : Nat} {cells : List AV} (ht : ti P e = some i) (hk : objs.length = k) (hz : i.zero.map .v = cells) : Eff P (.alloc e) n o objs (.ptr k 0) (objs ++ [.box cells]) := by
  refine ⟨?_⟩; intro p N E hp hN; unfold aop; rw [hp]; dsimp only; rw [ht]; subst hk; subst hz; exact .inl hN
theorem E_box {e : TypeId} {i : TI} {k : Nat} {cs : List AV} (ht : ti P e = some i) (hk : objs.length = k) (hx : cellsAV (evo n o x) = some cs) : Eff P (.box e x) n o objs (.ptr k 0) (objs ++ [.box cs]) := by
  refine ⟨?_⟩; intro p N E hp hN; unfold aop; rw [hp]; dsimp only; rw [ht, eval_st, hx]; subst hk; exact hN
theorem E_store {i : TI} {k off : Nat} {cells xs cs' : List AV} (ht : ti P t = some i) (hx : evo n o x = .ptr k off) (hy : cellsAV (evo n o y) = some xs) (ho : objs[k]? = some (.box cells)) (hs : xs.length = i.size) (hl : Nat.ble (off + xs.length) cells.length = true) (hf : setFrom cells off xs = cs') : Eff P (.store t x y) n o objs .any (objs.set k (.box cs')) := by
  refine ⟨?_⟩; intro p N E hp hN; unfold aop; rw [hp]; dsimp only; rw [eval_st, eval_st, hx]; unfold storeAV; rw [ht, hy]; dsimp only; rw [ho]; subst hf; exact ⟨hs, Nat.le_of_ble_eq_true hl, hN⟩

theorem E_map {k : Nat} (hk : objs.length = k) : Eff P (.makeMap t none) n o objs (.map k) (objs ++ [.map []]) := by
  refine ⟨?_⟩; intro p N E hp hN; unfold aop; rw [hp]; dsimp only; subst hk; exact hN
theorem E_mks {i j : TI} {e : TypeId} {k : Nat} {m : Int} (ht : ti P t = some i) (hd : i.desc = .slice e) (hj : ti P e = some j) (h0 : 0 < j.size) (hx : evo n o x = .v (.int .i64 m)) (hy : evo n o y = .v (.int .i64 m)) (hm : 0 ≤ m ∧ m ≤ 9223372036854775807 ∧ m.toNat * j.bytes ≤ 281474976710656) (hk : objs.length = k) : Eff P (.makeSlice t x y) n o objs (.bsl k 0 m.toNat) (objs ++ [.box (zrep j.zero j.size m.toNat)]) := by
  refine ⟨?_⟩; intro p N E hp hN; unfold aop; rw [hp]; dsimp only; rw [eval_st, eval_st, hx, hy]; unfold makeSliceAV; rw [ht]; dsimp only; rw [hd]; dsimp only; rw [hj]; subst hk; exact ⟨h0, rfl, hm.1, hm.2.1, hm.2.2, hN⟩

section
variable {α : Type} {c : α → List D} {i j : TI} {e : TypeId} {l l2 : List α} {tg : Tk} (ht : ti P t = some i) (hd : i.desc = .slice e) (hj : ti P e = some j) (h0 : 0 < j.size ∧ 0 < j.bytes) (hz : ∀ r, (c r).length = j.size)
include ht hd hj h0 hz
theorem app_rows (hy : evo n o y = .sl (l2.map c) tg) : appRows P t t e (evo n o y) = some (l2.map c) ∧ ∀ r ∈ l2.map c, r.length = j.size := by
  rw [hy]
  refine ⟨by simp [appRows], fun r hr => ?_⟩
  obtain ⟨q, _, rfl⟩ := List.mem_map.1 hr; exact hz q
theorem E_app0 (hx : evo n o x = .v (.slice none 0 0)) (hy : evo n o y = .sl (l2.map c) tg) (hb : l2.length * j.bytes ≤ 140737488355328) :
    Eff P (.call ⟨.builtin .append, #[x, y], #[t, t]⟩) n o objs (.sl (l2.map c) (.own objs.length)) (objs ++ [.tok l2.length j.size e true]) := by
  refine ⟨?_⟩; intro p N E hp hN; unfold aop; rw [hp]; dsimp only [List.map, Array.toList]; rw [eval_st, eval_st, hx]
  obtain ⟨k1, k2⟩ := app_rows ht hd hj h0 hz hy
  unfold builtinAV; dsimp only; unfold appendAV; rw [ht]; dsimp only; rw [hd]; dsimp only; rw [hj]; dsimp only; rw [k1]
  exact ⟨h0.1, h0.2, k2, by rw [List.length_map]; exact hb, by rw [List.length_map]; exact hN⟩
theorem E_appx (hx : evo n o x = .sl (l.map c) .exact) (hy : evo n o y = .sl (l2.map c) tg) (hpos : 0 < l.length + l2.length) (hb : (l.length + l2.length) * j.bytes ≤ 140737488355328) :
    Eff P (.call ⟨.builtin .append, #[x, y], #[t, t]⟩) n o objs (.sl ((l ++ l2).map c) (.own objs.length)) (objs ++ [.tok (l ++ l2).length j.size e l.isEmpty]) := by
  refine ⟨?_⟩; intro p N E hp hN; unfold aop; rw [hp]; dsimp only [List.map, Array.toList]; rw [eval_st, eval_st, hx]
  obtain ⟨k1, k2⟩ := app_rows ht hd hj h0 hz hy
  obtain ⟨_, k3⟩ := app_rows (l2 := l) (tg := .exact) (y := x) ht hd hj h0 hz hx
  unfold builtinAV; dsimp only; unfold appendAV; rw [ht]; dsimp only; rw [hd]; dsimp only; rw [hj]; dsimp only; rw [k1]
  refine ⟨h0.1, h0.2, k2, by rw [List.length_map, List.length_map]; exact hpos, k3, by rw [List.length_map, List.length_map]; exact hb, ?_⟩
  rw [List.length_map, List.length_map, ← List.map_append, List.isEmpty_map, ← List.length_append]; exact hN
theorem E_appo {k : Nat} {ex : Bool} {len : Nat} (hx : evo n o x = .sl (l.map c) (.own k)) (hy : evo n o y = .sl (l2.map c) tg) (ho : objs[k]? = some (.tok len j.size e ex)) (hln : len = l.length) (hb : (l.length + l2.length) * j.bytes ≤ 140737488355328) :
    Eff P (.call ⟨.builtin .append, #[x, y], #[t, t]⟩) n o objs (.sl ((l ++ l2).map c) (.own k)) (objs.set k (.tok (l ++ l2).length j.size e ex)) := by
  refine ⟨?_⟩; intro p N E hp hN; unfold aop; rw [hp]; dsimp only [List.map, Array.toList]; rw [eval_st, eval_st, hx]
  obtain ⟨k1, k2⟩ := app_rows ht hd hj h0 hz hy
  obtain ⟨_, k3⟩ := app_rows (l2 := l) (tg := .own k) (y := x) ht hd hj h0 hz hx
  unfold builtinAV; dsimp only; unfold appendAV; rw [ht]; dsimp only; rw [hd]; dsimp only; rw [hj]; dsimp only; rw [k1]; dsimp only; rw [ho]
  refine ⟨h0.1, h0.2, k2, by rw [List.length_map]; exact hln, rfl, rfl, k3, by rw [List.length_map, List.length_map]; exact hb, ?_⟩
  rw [List.length_map, List.length_map, ← List.map_append, ← List.length_append]; exact hN
end
end

/-! ### Steps -/
section
variable {P : Program} {β : Type} {m : Option β} {Φ : β → Prop} {ops rest : List Oper} {K : AS → Prop} {E : AV → List Obj → Prop} {n d : Nat} {o : List (Nat × AV)} {objs objs' : List Obj} {op : Op} {ty : TypeId} {pos : String} {af : Array Edge} {v : AV}

theorem S_v (hop : Val P op n o objs v) (h : H m Φ (aops P ops rest (st n (oc d v o) objs) K E)) : H m Φ (aops P ops (⟨some d, op, ty, pos, af, none⟩ :: rest) (st n o objs) K E) :=
  S_run (s' := st n (oc d v o) objs) rfl (fun N E hN => hop.run _ N E rfl hN) h
theorem S_e (hop : Eff P op n o objs v objs') (h : H m Φ (aops P ops rest (st n (oc d v o) objs') K E)) : H m Φ (aops P ops (⟨some d, op, ty, pos, af, none⟩ :: rest) (st n o objs) K E) :=
  S_run (s' := st n (oc d v o) objs') rfl (fun N E hN => hop.run _ N E rfl hN) h
theorem S_e0 (hop : Eff P op n o objs v objs') (h : H m Φ (aops P ops rest (st n o objs') K E)) : H m Φ (aops P ops (⟨none, op, ty, pos, af, none⟩ :: rest) (st n o objs) K E) :=
  S_run (s' := st n o objs') rfl (fun N E hN => hop.run _ N E rfl hN) h
end
end Go.Proofs.YtcpjmkbcefmldaaGreatDoor.AM

/- What may be forgotten, calls and answers, for the models. -/
namespace Go.Proofs.YtcpjmkbcefmldaaGreatDoor.AM
open Go

/-! ### What may be forgotten -/

def leC : List AV → List AV → Prop
  | _, [] => True
  | x :: xs, y :: ys => x.le y ∧ leC xs ys
  | [], _ :: _ => False
def leOb1 : Obj → Obj → Prop
  | .box cs, .box ds => leC cs ds
  | .box _, .dead => True
  | .map _, .dead => True
  | .mapB _ _ _, .dead => True
  | .iter _ _ _, .dead => True
  | .bld _ _, .dead => True
  | .lin _ _ _ _, .dead => True
  | .tok _ _ _ ex, .dead => ex = false
  | .mapB _ _ es, .map es' => es = es'
  | x, y => x = y
def leOb : List Obj → List Obj → Prop
  | _, [] => True
  | x :: xs, y :: ys => leOb1 x y ∧ leOb xs ys
  | [], _ :: _ => False

theorem leOb_nil (xs : List Obj) : leOb xs [] := by cases xs <;> trivial
theorem leC_get : ∀ {xs ys : List AV}, leC xs ys → ys.length ≤ xs.length ∧ ∀ (i : Nat) (x y : AV), xs[i]? = some x → ys[i]? = some y → x.le y
  | xs, [], _ => ⟨Nat.zero_le _, fun i x y _ h => by simp at h⟩
  | [], _ :: _, h => h.elim
  | x :: xs, y :: ys, h => by
    obtain ⟨k1, k2⟩ := leC_get h.2
    refine ⟨by simpa using k1, fun i a b ha hb => ?_⟩
    cases i with
    | zero => simp at ha hb; subst ha; subst hb; exact h.1
    | succ i => exact k2 i a b (by simpa using ha) (by simpa using hb)

theorem leOb1_ok {G : Ghost} {w : World} {g : GB} {x y : Obj} (h : leOb1 x y) (hx : ObjOk G w g x) : ObjOk G w g y := by
  cases x with
  | box cs =>
    cases y with
    | box ds =>
      obtain ⟨k1, k2⟩ := leC_get h
      rcases hx with ⟨rfl, l, hl⟩ | ⟨b, c, e, e1, e2, e3, e4, e5⟩
      · have : ds = [] := List.eq_nil_of_length_eq_zero (by simpa using k1)
        exact .inl ⟨this, l, hl⟩
      · refine .inr ⟨b, c, e, e1, e2, by omega, fun j z v hz hv => ?_, e5⟩
        have hj : j < ds.length := (List.getElem?_eq_some_iff.1 hz).1
        have hj' : j < cs.length := by omega
        obtain ⟨q1, q2⟩ := e4 j cs[j] v (List.getElem?_eq_getElem hj') hv
        exact ⟨q1, AV.le_sound (k2 j _ _ (List.getElem?_eq_getElem hj') hz) q2⟩
    | dead =>
      rcases hx with ⟨_, l, rfl⟩ | ⟨b, c, e, rfl, _⟩
      · intro b l c sz h; cases h
      · intro b l c sz h; cases h
    | tok => cases h
    | map => cases h
    | mapB => cases h
    | iter => cases h
    | bld => cases h
    | lin => cases h
  | tok l sz e ex =>
    cases y with
    | dead =>
      have he : ex = false := h
      subst he
      rcases hx with ⟨rfl, _⟩ | ⟨b, cap, cur, rfl, _⟩
      · intro b l c sz h; cases h
      · intro b l c sz h; cases h
    | tok => cases h; exact hx
    | _ => cases h
  | map =>
    cases y with
    | dead => obtain ⟨b, _, _, rfl, _⟩ := hx; intro b l c sz h; cases h
    | map => cases h; exact hx
    | box => cases h
    | tok => cases h
    | mapB => cases h
    | iter => cases h
    | bld => cases h
    | lin => cases h
  | mapB =>
    cases y with
    | dead => obtain ⟨b, _, rfl, _⟩ := hx; intro b l c sz h; cases h
    | map => obtain ⟨rfl⟩ := h; obtain ⟨b, ents, h1, h2, h3, h4, h5, h6, h7⟩ := hx; exact ⟨b, ents, _, h1, h2, h3, h4, h5, h7⟩
    | mapB => cases h; exact hx
    | box => cases h
    | tok => cases h
    | iter => cases h
    | bld => cases h
    | lin => cases h
  | iter =>
    cases y with
    | dead => obtain ⟨b, _, rfl, _⟩ := hx; intro b l c sz h; cases h
    | iter => cases h; exact hx
    | map => cases h
    | mapB => cases h
    | box => cases h
    | tok => cases h
    | bld => cases h
    | lin => cases h
  | bld =>
    cases y with
    | dead => obtain ⟨b, _, _, rfl, _⟩ := hx; intro b l c sz h; cases h
    | bld => cases h; exact hx
    | map => cases h
    | mapB => cases h
    | box => cases h
    | tok => cases h
    | iter => cases h
    | lin => cases h
  | lin =>
    cases y with
    | dead => rcases hx with ⟨_, _, rfl⟩ | ⟨b, _, _, rfl, _⟩ <;> (intro b l c sz h; cases h)
    | lin => cases h; exact hx
    | bld => cases h
    | map => cases h
    | mapB => cases h
    | box => cases h
    | tok => cases h
    | iter => cases h
  | dead => cases y <;> first | (cases h; exact hx) | cases h

theorem leOb_get : ∀ {xs ys : List Obj}, leOb xs ys → ys.length ≤ xs.length ∧ ∀ (i : Nat) (x y : Obj), xs[i]? = some x → ys[i]? = some y → leOb1 x y
  | xs, [], _ => ⟨Nat.zero_le _, fun i x y _ h => by simp at h⟩
  | [], _ :: _, h => h.elim
  | x :: xs, y :: ys, h => by
    obtain ⟨k1, k2⟩ := leOb_get h.2
    refine ⟨by simpa using k1, fun i a b ha hb => ?_⟩
    cases i with
    | zero => simp at ha hb; subst ha; subst hb; exact h.1
    | succ i => exact k2 i a b (by simpa using ha) (by simpa using hb)

theorem Weak.objs {n0 : Nat} {tmps : List AV} {objs objs' : List Obj} (hl : objs'.length = objs.length) (h : ∀ (i : Nat) (x y : Obj), objs[i]? = some x → objs'[i]? = some y → leOb1 x y) : Weak n0 ⟨tmps, objs⟩ ⟨tmps, objs'⟩ := by
  intro G0 w0 G a w hn hf
  have hm := hf.sat.mem
  refine ⟨G, hf.step, ⟨by rw [hl]; exact hm.len, fun o y g hy hg => ?_, hm.inj, hm.lt, hm.immLt⟩, hf.sat.tmps, hf.sat.defers⟩
  have ho : o < objs.length := by rw [← hl]; exact (List.getElem?_eq_some_iff.1 hy).1
  exact leOb1_ok (h o _ y (List.getElem?_eq_getElem ho) hy) (hm.ok o _ g (List.getElem?_eq_getElem ho) hg)

theorem Weak.gen {n0 : Nat} {tmps tmps' : List AV} {objs objs' : List Obj} (h : AV.leL tmps tmps') (ho : leOb objs objs') (hn : n0 ≤ objs'.length) (h1 : AV.idsLtL objs'.length tmps' = true) (h2 : belowObjs objs'.length objs' = true) : Weak n0 ⟨tmps, objs⟩ ⟨tmps', objs'⟩ := by
  obtain ⟨k1, k2⟩ := leOb_get ho
  have hob : Weak n0 ⟨tmps', objs⟩ ⟨tmps', objs' ++ objs.drop objs'.length⟩ := by
    refine Weak.objs (by simp; omega) fun i x y hx hy => ?_
    rcases Nat.lt_or_ge i objs'.length with hi | hi
    · rw [List.getElem?_append_left hi] at hy; exact k2 i x y hx hy
    · rw [List.getElem?_append_right hi, List.getElem?_drop, show objs'.length + (i - objs'.length) = i from by omega, hx] at hy
      cases hy
      cases x <;> first | rfl | skip
      rename_i cs
      show leC cs cs
      clear hx
      induction cs with
      | nil => trivial
      | cons c cs ih => exact ⟨AV.le_refl _, ih⟩
  exact (Weak.le (s := ⟨tmps, objs⟩) h).trans (hob.trans (Weak.drop (s := ⟨tmps', _⟩) objs' _ rfl hn h1 h2))

theorem W_ov {n0 n : Nat} {o o' : List (Nat × AV)} {objs objs' : List Obj} (h : leO o o') (ho : leOb objs objs') (hn : n0 ≤ objs'.length) (h1 : idsO objs'.length o' = true) (h2 : belowObjs objs'.length objs' = true) :
    Weak n0 (st n o objs) (st n o' objs') := Weak.gen (leO_leL h) ho hn (idsO_L h1) h2

section
variable {P : Program} {n0 n : Nat} {o : List (Nat × AV)} {objs objs' : List Obj} {β : Type} {m : Option β} {Φ : β → Prop} {N : AS → Prop} {Q : AX → AS → Prop} {E : AV → List Obj → Prop}
theorem W_tok {d sz e : Nat} {o : List (Nat × AV)} {objs : List Obj} (hd : d < n) (h : og o d = .v (.slice none 0 0)) : Weak n0 (st n o objs) (st n (oc d (.sl [] (.own objs.length)) o) (objs ++ [.tok 0 sz e true])) := Weak.tokO d sz e true hd h

end

/-! ### Calls -/

section
variable {P : Program} {β α : Type} {m : α → Option β} {Φ : β → Prop} {ops rest : List Oper} {K : AS → Prop} {E : AV → List Obj → Prop} {n d g : Nat} {o : List (Nat × AV)} {objs : List Obj} {ty : TypeId} {pos : String} {af : Array Edge}
  {cal : Operand} {args : Array Operand} {at' : Array TypeId} {first cap args' : List AV} {e : Option α} {X : α → AV} {O : α → List Obj} {enc : α → AV} {ob : α → List Obj}

theorem call_op (hc : evo n o cal = .fn g first cap) (hen : enters P g = true) (hf : ∀ r, e = some r → Fun P g args' (X r) (O r)) (ha : AV.idsLtL 0 args' = true)
    (hle : AV.leL (AV.stripL (first ++ args.toList.map (evo n o) ++ cap)) args')
    (hx : ∀ r, (X r).shift (AV.pubL objs (first ++ args.toList.map (evo n o) ++ cap)).length = enc r)
    (ho : ∀ r, AV.pubL objs (first ++ args.toList.map (evo n o) ++ cap) ++ (O r).map (Obj.shift (AV.pubL objs (first ++ args.toList.map (evo n o) ++ cap)).length) = ob r)
    {r : α} (hr : e = some r) : Eff P (.call ⟨.value cal, args, at'⟩) n o objs (enc r) (ob r) := by
  refine ⟨?_⟩
  intro p N E hp hN
  unfold aop; rw [hp]; dsimp only
  have ee : (st n o objs).eval = evo n o := funext fun x => eval_st n o objs x
  rw [ee, hc]; dsimp only
  refine call_fun hen (hf r hr) ha hle ?_
  rw [hx r, ho r]; exact hN

theorem S_call (hc : evo n o cal = .fn g first cap) (hen : enters P g = true) (hf : ∀ r, e = some r → Fun P g args' (X r) (O r)) (ha : AV.idsLtL 0 args' = true)
    (hle : AV.leL (AV.stripL (first ++ args.toList.map (evo n o) ++ cap)) args')
    (hx : ∀ r, (X r).shift (AV.pubL objs (first ++ args.toList.map (evo n o) ++ cap)).length = enc r)
    (ho : ∀ r, AV.pubL objs (first ++ args.toList.map (evo n o) ++ cap) ++ (O r).map (Obj.shift (AV.pubL objs (first ++ args.toList.map (evo n o) ++ cap)).length) = ob r)
    (h : ∀ r, H (m r) Φ (aops P ops rest (st n (oc d (enc r) o) (ob r)) K E)) : H (callM enc ob e m) Φ (aops P ops (⟨some d, .call ⟨.value cal, args, at'⟩, ty, pos, af, none⟩ :: rest) (st n o objs) K E) := by
  intro y hy hp
  unfold callM at hy
  cases he : e with
  | none => rw [he] at hy; cases hy
  | some r =>
    rw [he] at hy
    exact S_e (v := enc r) (objs' := ob r) (call_op hc hen hf ha hle hx ho he) (h r) y hy hp
theorem S_callG {j : Nat} {want : Bool} (hg : gcond ops (st n o objs) j want = some true) (hc : evo n o cal = .fn g first cap) (hen : enters P g = true) (hf : ∀ r, e = some r → Fun P g args' (X r) (O r)) (ha : AV.idsLtL 0 args' = true)
    (hle : AV.leL (AV.stripL (first ++ args.toList.map (evo n o) ++ cap)) args')
    (hx : ∀ r, (X r).shift (AV.pubL objs (first ++ args.toList.map (evo n o) ++ cap)).length = enc r)
    (ho : ∀ r, AV.pubL objs (first ++ args.toList.map (evo n o) ++ cap) ++ (O r).map (Obj.shift (AV.pubL objs (first ++ args.toList.map (evo n o) ++ cap)).length) = ob r)
    (h : ∀ r, H (m r) Φ (aops P ops rest (st n (oc d (enc r) o) (ob r)) K E)) : H (callM enc ob e m) Φ (aops P ops (⟨some d, .call ⟨.value cal, args, at'⟩, ty, pos, af, some (j, want)⟩ :: rest) (st n o objs) K E) := by
  intro y hy hp
  unfold callM at hy
  cases he : e with
  | none => rw [he] at hy; cases hy
  | some r =>
    rw [he] at hy
    exact S_on (s' := st n (oc d (enc r) o) (ob r)) (j := j) (want := want) rfl hg rfl (fun N E hN => (call_op hc hen hf ha hle hx ho he).run _ N E rfl hN) (h r) y hy hp
theorem S_callC {ops : Array Oper} {L : List Nat} {o1 : List (Nat × AV)} (hL : Oper.looksAt ops ⟨some d, .call ⟨.value cal, args, at'⟩, ty, pos, af, none⟩ = L) (h1 : okeep L o = o1) (hc : evo n o1 cal = .fn g first cap) (hen : enters P g = true) (hf : ∀ r, e = some r → Fun P g args' (X r) (O r)) (ha : AV.idsLtL 0 args' = true)
    (hle : AV.leL (AV.stripL (first ++ args.toList.map (evo n o1) ++ cap)) args')
    (hx : ∀ r, (X r).shift (AV.pubL objs (first ++ args.toList.map (evo n o1) ++ cap)).length = enc r)
    (ho : ∀ r, AV.pubL objs (first ++ args.toList.map (evo n o1) ++ cap) ++ (O r).map (Obj.shift (AV.pubL objs (first ++ args.toList.map (evo n o1) ++ cap)).length) = objs)
    (h : ∀ r, H (m r) Φ (aopsC P ops rest (st n (oc d (enc r) o) objs) K)) : H (callM enc ob e m) Φ (aopsC P ops (⟨some d, .call ⟨.value cal, args, at'⟩, ty, pos, af, none⟩ :: rest) (st n o objs) K) := by
  intro y hy hp
  unfold callM at hy
  cases he : e with
  | none => rw [he] at hy; cases hy
  | some r =>
    rw [he] at hy
    exact S_runC (s := st n o objs) (s1 := st n o1 objs) (y := enc r) rfl hL (by rw [keep_ov, h1]) (fun N E hN => (call_op (ob := fun _ => objs) hc hen hf ha hle hx ho he).run _ N E rfl hN) (h r) y hy hp
end

structure TotS (P : Program) (op : Op) (n : Nat) (o : List (Nat × AV)) (objs : List Obj) (c : Bool) (v : AV) : Prop where
  eq : totO P (st n o objs) op = some (c, v)
structure NTot (P : Program) (op : Op) (n : Nat) (o : List (Nat × AV)) (objs : List Obj) : Prop where
  eq : totO P (st n o objs) op = none

/-! ### The other steps, by conditions and orders -/
section
variable {P : Program} {β : Type} {m : Option β} {Φ : β → Prop} {ops rest : List Oper} {K : AS → Prop} {E : AV → List Obj → Prop} {n d : Nat} {o : List (Nat × AV)} {objs objs' : List Obj} {op : Op} {ty : TypeId} {pos : String} {af : Array Edge} {v : AV} {j : Nat} {want g c : Bool}

theorem G_v (hg : gcond ops (st n o objs) j want = some true) (ht : NTot P op n o objs) (hop : Val P op n o objs v) (h : H m Φ (aops P ops rest (st n (oc d v o) objs) K E)) : H m Φ (aops P ops (⟨some d, op, ty, pos, af, some (j, want)⟩ :: rest) (st n o objs) K E) :=
  S_on (s' := st n (oc d v o) objs) rfl hg ht.eq (fun N E hN => hop.run _ N E rfl hN) h
theorem G_e (hg : gcond ops (st n o objs) j want = some true) (ht : NTot P op n o objs) (hop : Eff P op n o objs v objs') (h : H m Φ (aops P ops rest (st n (oc d v o) objs') K E)) : H m Φ (aops P ops (⟨some d, op, ty, pos, af, some (j, want)⟩ :: rest) (st n o objs) K E) :=
  S_on (s' := st n (oc d v o) objs') rfl hg ht.eq (fun N E hN => hop.run _ N E rfl hN) h
theorem G_off (hg : gcond ops (st n o objs) j want = some false) (ht : NTot P op n o objs) (h : H m Φ (aops P ops rest (st n (oc d (.cnd false .any) o) objs) K E)) : H m Φ (aops P ops (⟨some d, op, ty, pos, af, some (j, want)⟩ :: rest) (st n o objs) K E) :=
  S_off (s := st n o objs) rfl hg ht.eq h
theorem G_tot (hg : gcond ops (st n o objs) j want = some g) (ht : TotS P op n o objs c v) (hi : g = true → c = true) (h : H m Φ (aops P ops rest (st n (oc d (.cnd g v) o) objs) K E)) : H m Φ (aops P ops (⟨some d, op, ty, pos, af, some (j, want)⟩ :: rest) (st n o objs) K E) :=
  S_tot (s := st n o objs) rfl hg ht.eq hi h
theorem Q_v (hq : isQ op = true) (hop : Val P op n o objs v) (h : H m Φ (aopsQ P ops rest (st n (oc d v o) objs) K)) : H m Φ (aopsQ P ops (⟨some d, op, ty, pos, af, none⟩ :: rest) (st n o objs) K) :=
  S_runQ (s' := st n (oc d v o) objs) rfl hq (fun N E hN => hop.run _ N E rfl hN) h
theorem QG_v (hq : isQ op = true) (hg : gcond ops (st n o objs) j want = some true) (ht : NTot P op n o objs) (hop : Val P op n o objs v) (h : H m Φ (aopsQ P ops rest (st n (oc d v o) objs) K)) : H m Φ (aopsQ P ops (⟨some d, op, ty, pos, af, some (j, want)⟩ :: rest) (st n o objs) K) :=
  S_onQ (s' := st n (oc d v o) objs) rfl hg ht.eq hq (fun N E hN => hop.run _ N E rfl hN) h
theorem QG_off (hq : isQ op = true) (hg : gcond ops (st n o objs) j want = some false) (ht : NTot P op n o objs) (h : H m Φ (aopsQ P ops rest (st n (oc d (.cnd false .any) o) objs) K)) : H m Φ (aopsQ P ops (⟨some d, op, ty, pos, af, some (j, want)⟩ :: rest) (st n o objs) K) :=
  S_offQ (s := st n o objs) rfl hg ht.eq hq h
theorem QG_tot (hq : isQ op = true) (hg : gcond ops (st n o objs) j want = some g) (ht : TotS P op n o objs c v) (hi : g = true → c = true) (h : H m Φ (aopsQ P ops rest (st n (oc d (.cnd g v) o) objs) K)) : H m Φ (aopsQ P ops (⟨some d, op, ty, pos, af, some (j, want)⟩ :: rest) (st n o objs) K) :=
  S_totQ (s := st n o objs) rfl hg ht.eq hq hi h
theorem C_v {ops : Array Oper} {L : List Nat} {o1 : List (Nat × AV)} (hL : Oper.looksAt ops ⟨some d, op, ty, pos, af, none⟩ = L) (h1 : okeep L o = o1) (hop : Val P op n o1 objs v) (h : H m Φ (aopsC P ops rest (st n (oc d v o) objs) K)) : H m Φ (aopsC P ops (⟨some d, op, ty, pos, af, none⟩ :: rest) (st n o objs) K) :=
  S_runC (s := st n o objs) (s1 := st n o1 objs) rfl hL (by rw [keep_ov, h1]) (fun N E hN => hop.run _ N E rfl hN) h
end

section
variable {P : Program} {β : Type} {m : Option β} {Φ : β → Prop} {ops : Array Oper} {rest : List Oper} {K : AS → Prop} {n d : Nat} {o o1 : List (Nat × AV)} {objs : List Obj} {op : Op} {ty : TypeId} {pos : String} {af : Array Edge} {v : AV} {j : Nat} {want g c : Bool} {L : List Nat}
theorem CG_v (hL : Oper.looksAt ops ⟨some d, op, ty, pos, af, some (j, want)⟩ = L) (h1 : okeep L o = o1) (hg : gcond ops.toList (st n o1 objs) j want = some true) (hop : Val P op n o1 objs v) (h : H m Φ (aopsC P ops rest (st n (oc d (.cnd true v) o) objs) K)) : H m Φ (aopsC P ops (⟨some d, op, ty, pos, af, some (j, want)⟩ :: rest) (st n o objs) K) :=
  S_runCG (s := st n o objs) (s1 := st n o1 objs) rfl hL (by rw [keep_ov, h1]) hg (.inl fun _ N E hN => hop.run _ N E rfl hN) h
theorem CG_off (hL : Oper.looksAt ops ⟨some d, op, ty, pos, af, some (j, want)⟩ = L) (h1 : okeep L o = o1) (hg : gcond ops.toList (st n o1 objs) j want = some false) (h : H m Φ (aopsC P ops rest (st n (oc d (.cnd false .any) o) objs) K)) : H m Φ (aopsC P ops (⟨some d, op, ty, pos, af, some (j, want)⟩ :: rest) (st n o objs) K) :=
  S_runCG (s := st n o objs) (s1 := st n o1 objs) rfl hL (by rw [keep_ov, h1]) hg (.inl fun h => by cases h) h
theorem CG_tot (hL : Oper.looksAt ops ⟨some d, op, ty, pos, af, some (j, want)⟩ = L) (h1 : okeep L o = o1) (hg : gcond ops.toList (st n o1 objs) j want = some g) (ht : TotS P op n o1 objs c v) (hi : g = true → c = true) (h : H m Φ (aopsC P ops rest (st n (oc d (.cnd g v) o) objs) K)) : H m Φ (aopsC P ops (⟨some d, op, ty, pos, af, some (j, want)⟩ :: rest) (st n o objs) K) :=
  S_runCG (s := st n o objs) (s1 := st n o1 objs) rfl hL (by rw [keep_ov, h1]) hg (.inr ⟨c, ht.eq, hi⟩) h
theorem CG_call {α : Type} {m : α → Option β} {gf : Nat} {cal : Operand} {args : Array Operand} {at' : Array TypeId} {first cap args' : List AV} {e : Option α} {X : α → AV} {O : α → List Obj} {enc : α → AV} {ob : α → List Obj}
    (hL : Oper.looksAt ops ⟨some d, .call ⟨.value cal, args, at'⟩, ty, pos, af, some (j, want)⟩ = L) (h1 : okeep L o = o1) (hg : gcond ops.toList (st n o1 objs) j want = some true) (hc : evo n o1 cal = .fn gf first cap) (hen : enters P gf = true) (hf : ∀ r, e = some r → Fun P gf args' (X r) (O r)) (ha : AV.idsLtL 0 args' = true)
    (hle : AV.leL (AV.stripL (first ++ args.toList.map (evo n o1) ++ cap)) args')
    (hx : ∀ r, (X r).shift (AV.pubL objs (first ++ args.toList.map (evo n o1) ++ cap)).length = enc r)
    (ho : ∀ r, AV.pubL objs (first ++ args.toList.map (evo n o1) ++ cap) ++ (O r).map (Obj.shift (AV.pubL objs (first ++ args.toList.map (evo n o1) ++ cap)).length) = objs)
    (h : ∀ r, H (m r) Φ (aopsC P ops rest (st n (oc d (.cnd true (enc r)) o) objs) K)) : H (callM enc ob e m) Φ (aopsC P ops (⟨some d, .call ⟨.value cal, args, at'⟩, ty, pos, af, some (j, want)⟩ :: rest) (st n o objs) K) := by
  intro y hy hp
  unfold callM at hy
  cases he : e with
  | none => rw [he] at hy; cases hy
  | some r =>
    rw [he] at hy
    exact S_runCG (s := st n o objs) (s1 := st n o1 objs) (v := enc r) rfl hL (by rw [keep_ov, h1]) hg (.inl fun _ N E hN => (call_op (ob := fun _ => objs) hc hen hf ha hle hx ho he).run _ N E rfl hN) (h r) y hy hp
end

/-! ### Conditions -/
def gslo (n : Nat) (o : List (Nat × AV)) (want : Bool) : Option Nat → Option Bool
  | some d => (match (if d < n then og o d else .any).boolUn with | some (g, b) => some (g && (b == want)) | none => none)
  | none => none
theorem gcond_st {ops : List Oper} {n : Nat} {o : List (Nat × AV)} {objs : List Obj} {j : Nat} {want g : Bool} {d : Option Nat} (hd : dstAt ops j = d) (h : gslo n o want d = some g) : gcond ops (st n o objs) j want = some g := by
  rw [gcond_eq, hd]
  cases d with
  | none => exact h
  | some d => rw [gslot_ov]; exact h
theorem gslo_t {n d : Nat} {o : List (Nat × AV)} {b : Bool} (h : (if d < n then og o d else .any).boolUn = some (true, b)) : gslo n o true (some d) = some b := by
  unfold gslo; simp only [h]; cases b <;> rfl
theorem gslo_f {n d : Nat} {o : List (Nat × AV)} {b : Bool} (h : (if d < n then og o d else .any).boolUn = some (true, b)) : gslo n o false (some d) = some (!b) := by
  unfold gslo; simp only [h]; cases b <;> rfl
theorem gslo_fT {n d : Nat} {o : List (Nat × AV)} (h : (if d < n then og o d else .any).boolUn = some (true, false)) : gslo n o false (some d) = some true := gslo_f h
theorem gslo_fF {n d : Nat} {o : List (Nat × AV)} (h : (if d < n then og o d else .any).boolUn = some (true, true)) : gslo n o false (some d) = some false := gslo_f h
theorem gslo_0 {n d : Nat} {o : List (Nat × AV)} {want b : Bool} (h : (if d < n then og o d else .any).boolUn = some (false, b)) : gslo n o want (some d) = some false := by
  unfold gslo; simp only [h]; rfl
theorem gslo_gt {n d : Nat} {o : List (Nat × AV)} {g b : Bool} (h : (if d < n then og o d else .any).boolUn = some (g, b)) : gslo n o true (some d) = some (g && b) := by
  unfold gslo; simp only [h]; cases b <;> rfl
theorem gslo_gf {n d : Nat} {o : List (Nat × AV)} {g b : Bool} (h : (if d < n then og o d else .any).boolUn = some (g, b)) : gslo n o false (some d) = some (g && !b) := by
  unfold gslo; simp only [h]; cases b <;> rfl

/-! ### Answers -/
def RetIs {β : Type} (X : β → AV) (O : β → List Obj) (r : β) : AEnd → List Obj → Prop := fun ae o => ae = .ret (X r) ∧ o = O r
def resS (n : Nat) (o : List (Nat × AV)) : List ResultVar → Option (List AV)
  | [] => some []
  | .tmp t :: rs => (match resS n o rs with | some xs => some ((if t < n then og o t else .any) :: xs) | none => none)
  | .cell _ _ :: _ => none
theorem resS_ok {P : Program} {n : Nat} {o : List (Nat × AV)} {objs : List Obj} : ∀ {rs : List ResultVar} {xs : List AV}, resS n o rs = some xs → resL P (st n o objs) rs = some xs
  | [], xs, h => h
  | .tmp t :: rs, xs, h => by
    simp only [resS] at h
    cases hr : resS n o rs with
    | none => rw [hr] at h; cases h
    | some ys =>
      rw [hr] at h
      simp only [resL, resO, resS_ok hr]
      rw [show ((st n o objs).tmps.getD t .any) = if t < n then og o t else .any from ov_getD n o t]
      exact h
  | .cell _ _ :: _, _, h => by cases h

section
variable {P : Program} {β : Type} {r v : β} {n : Nat} {o : List (Nat × AV)} {objs : List Obj} {rs : List ResultVar} {X : β → AV} {O : β → List Obj}
theorem R_ret1 {x0 : AV} (hr : resS n o rs = some [x0]) (hx : x0.le (X v)) (ho : leOb objs (O v)) (h1 : (X v).idsLt (O v).length = true) (h2 : belowObjs (O v).length (O v) = true) :
    H (retM v) (fun y => y = r) (bodyQ P 0 rs (RetIs X O r) .ret (st n o objs)) := by
  refine H_ret ?_
  rintro rfl
  exact ⟨x0, by unfold resAV; rw [resS_ok hr]; rfl, X v, O v, Weak.gen (tmps := [x0]) (tmps' := [X v]) ⟨hx, trivial⟩ ho (Nat.zero_le _) (by simp [AV.idsLtL, h1]) h2, rfl, rfl⟩
theorem R_ret1s {x0 : AV} (hr : resS n o rs = some [x0]) (hx : x0.strip.le (X v)) (h1 : (X v).idsLt 0 = true) (hO : O v = []) :
    H (retM v) (fun y => y = r) (bodyQ P 0 rs (RetIs X O r) .ret (st n o objs)) := by
  refine H_ret ?_
  rintro rfl
  refine ⟨x0, by unfold resAV; rw [resS_ok hr]; rfl, X v, O v, ?_, rfl, rfl⟩
  rw [hO]
  intro G0 w0 G a w hn hf
  obtain ⟨G', k1, k2, k3⟩ := stripL_step [x0] G objs hf.sat.mem
  have hf' : From G0 w0 G' ⟨AV.stripL [x0], AV.pubL objs [x0]⟩ a w := ⟨hf.step.trans k1, k2, k3 _ hf.sat.tmps, hf.sat.defers⟩
  exact Weak.gen (n0 := 0) (tmps := AV.stripL [x0]) (tmps' := [X v]) (objs' := []) ⟨hx, trivial⟩ (leOb_nil _) (Nat.zero_le _) (by simp [AV.idsLtL, h1]) rfl G0 w0 G' a w hn hf'
theorem R_retn {x0 x1 : AV} {xs ys : List AV} (hr : resS n o rs = some (x0 :: x1 :: xs)) (hX : X v = .tup ys) (hx : AV.leL (x0 :: x1 :: xs) ys) (ho : leOb objs (O v)) (h1 : AV.idsLtL (O v).length ys = true) (h2 : belowObjs (O v).length (O v) = true) :
    H (retM v) (fun y => y = r) (bodyQ P 0 rs (RetIs X O r) .ret (st n o objs)) := by
  refine H_ret ?_
  rintro rfl
  refine ⟨.tup (x0 :: x1 :: xs), by unfold resAV; rw [resS_ok hr]; rfl, X v, O v, ?_, rfl, rfl⟩
  rw [hX]
  exact (Weak.tup hx).trans (Weak.gen (tmps := [.tup ys]) (tmps' := [.tup ys]) ⟨AV.le_refl _, trivial⟩ ho (Nat.zero_le _) (by simp [AV.idsLtL, AV.idsLt, h1]) h2)
theorem R_retns {x0 x1 : AV} {xs ys : List AV} (hr : resS n o rs = some (x0 :: x1 :: xs)) (hX : X v = .tup ys) (hx : AV.leL (AV.stripL (x0 :: x1 :: xs)) ys) (h1 : AV.idsLtL 0 ys = true) (hO : O v = []) :
    H (retM v) (fun y => y = r) (bodyQ P 0 rs (RetIs X O r) .ret (st n o objs)) := by
  refine H_ret ?_
  rintro rfl
  refine ⟨.tup (x0 :: x1 :: xs), by unfold resAV; rw [resS_ok hr]; rfl, X v, O v, ?_, rfl, rfl⟩
  rw [hO, hX]
  intro G0 w0 G a w hn hf
  obtain ⟨G', k1, k2, k3⟩ := stripL_step (x0 :: x1 :: xs) G objs hf.sat.mem
  have hv := hf.sat.tmps
  have hlen : a.tmps.toList.length = 1 := hv.1
  match hal : a.tmps.toList, hlen with
  | [u], _ =>
    rw [hal] at hv
    have h0 := hv.2 0 _ u rfl rfl
    cases h0 with
    | tup _ vs hl hc =>
      obtain ⟨q1, q2⟩ := AV.leL_sound hx (k3 vs ⟨hl, hc⟩)
      have hf' : From G0 w0 G' ⟨[.tup ys], AV.pubL objs (x0 :: x1 :: xs)⟩ a w := by
        refine ⟨hf.step.trans k1, k2, ?_, hf.sat.defers⟩
        rw [hal]
        refine ⟨rfl, fun i x v hx hv => ?_⟩
        cases i with
        | zero => simp at hx hv; subst hx; subst hv; exact .tup _ vs q1 q2
        | succ i => simp at hx
      exact Weak.gen (n0 := 0) (tmps := [.tup ys]) (tmps' := [.tup ys]) (objs' := []) ⟨AV.le_refl _, trivial⟩ (leOb_nil _) (Nat.zero_le _) (by simp [AV.idsLtL, AV.idsLt, h1]) rfl G0 w0 G' a w hn hf'

theorem Fun.of_model {f : Nat} {fn : Func} {c : Code} {args : List AV} {m : Option β} (hf : P.funcs[f]? = some fn) (hb : fn.body = some c) (hl : args.length ≤ fn.ntmps) (hm : m = some r)
    (h : H m (fun y => y = r) (awp P 0 c (st fn.ntmps (argsO 0 args) []) (bodyQ P 0 fn.results.toList (RetIs X O r)) (fun _ _ => False))) : Fun P f args (X r) (O r) :=
  Fun.of_awpO hf hb hl (h r hm rfl)
end
end Go.Proofs.YtcpjmkbcefmldaaGreatDoor.AM

/- Further rules for models: totals, conditions, wholes. -/
namespace Go.Proofs.YtcpjmkbcefmldaaGreatDoor.AM
open Go

section
variable {P : Program} {n : Nat} {o : List (Nat × AV)} {objs objs' : List Obj} {x y z : Operand} {t t' : TypeId}

/-! ### Operations that have no condition -/
theorem tot_raw (x : Operand) : (st n o objs).raw x = rawo n o x := raw_st n o objs x
theorem t_mv {g : Bool} {v : AV} (hx : (rawo n o x).split = (g, v)) : totO P (st n o objs) (.move x) = some (g, v) := by
  unfold totO; dsimp only; rw [tot_raw, hx]
theorem t_int {op : BinOp} {q : IntKind} {a b : Int} {g h : Bool} {r : Value} (hx : (rawo n o x).split = (g, .v (.int q a))) (hy : (rawo n o y).split = (h, .v (.int q b))) (hr : intO op q a b = some r) : totO P (st n o objs) (.binOp op t x y t') = some (g && h, .v r) := by
  unfold totO; dsimp only; rw [tot_raw, tot_raw, hx, hy]; dsimp only; rw [if_pos rfl, hr]; rfl
theorem t_str {op : BinOp} {a b : ByteArray} {g h : Bool} {r : Value} (hx : (rawo n o x).split = (g, .v (.string a))) (hy : (rawo n o y).split = (h, .v (.string b))) (hr : strO op a b = some r) : totO P (st n o objs) (.binOp op t x y t') = some (g && h, .v r) := by
  unfold totO; dsimp only; rw [tot_raw, tot_raw, hx, hy]; dsimp only; rw [hr]; rfl
theorem t_eqlS {a b : Str} {g h : Bool} (hx : (rawo n o x).split = (g, .v (.string (bs a)))) (hy : (rawo n o y).split = (h, .v (.string (bs b)))) : totO P (st n o objs) (.binOp .eql t x y t') = some (g && h, .v (.bool (decide (a = b)))) := by
  rw [← dec_bs]; exact t_str hx hy rfl
theorem t_neqS {a b : Str} {g h : Bool} (hx : (rawo n o x).split = (g, .v (.string (bs a)))) (hy : (rawo n o y).split = (h, .v (.string (bs b)))) : totO P (st n o objs) (.binOp .neq t x y t') = some (g && h, .v (.bool (!decide (a = b)))) := by
  rw [← dec_bs]; exact t_str hx hy rfl
theorem t_not {g b : Bool} (hx : (rawo n o x).split = (g, .v (.bool b))) : totO P (st n o objs) (.unOp .not t x) = some (g, .v (.bool (!b))) := by
  unfold totO; dsimp only; rw [tot_raw, hx]
theorem t_pick {g b h p i q : Bool} (hc : (rawo n o x).split = (g, .v (.bool b))) (hx : (rawo n o y).boolUn = some (h, p)) (hy : (rawo n o z).boolUn = some (i, q)) : totO P (st n o objs) (.pick x y z) = some (g && (bif b then h else i), .v (.bool (bif b then p else q))) := by
  unfold totO; dsimp only; rw [tot_raw, tot_raw, tot_raw, hc, hx, hy]
theorem t_len {g h : Bool} {u v : AV} (hx : (rawo n o x).split = (g, u)) (hl : lenO P t (g, u) = some (h, v)) : totO P (st n o objs) (.call ⟨.builtin .len, #[x], #[t]⟩) = some (h, v) := by
  unfold totO; dsimp only; rw [tot_raw, hx]; exact hl
theorem t_lenS {g : Bool} {i : TI} {a : Str} (ht : ti P t = some i) (hd : i.desc = .string) (hx : (rawo n o x).split = (g, .v (.string (bs a)))) : totO P (st n o objs) (.call ⟨.builtin .len, #[x], #[t]⟩) = some (g, .v (.int .i64 (a.length : Int))) :=
  t_len hx (by unfold lenO; rw [ht]; dsimp only; rw [hd]; rfl)
theorem t_lenL {α : Type} {c : α → List D} {l : List α} {g : Bool} {i : TI} {e : TypeId} {tg : Tk} (ht : ti P t = some i) (hd : i.desc = .slice e) (hx : (rawo n o x).split = (g, .sl (l.map c) tg)) : totO P (st n o objs) (.call ⟨.builtin .len, #[x], #[t]⟩) = some (g, .v (.int .i64 (l.length : Int))) :=
  t_len hx (by unfold lenO; rw [ht]; dsimp only; rw [hd]; simp)
theorem t_len0 {g : Bool} {i : TI} {e : TypeId} (ht : ti P t = some i) (hd : i.desc = .slice e) (hx : (rawo n o x).split = (g, .v (.slice none 0 0))) : totO P (st n o objs) (.call ⟨.builtin .len, #[x], #[t]⟩) = some (g, .v (.int .i64 0)) :=
  t_len hx (by unfold lenO; rw [ht]; dsimp only; rw [hd]; rfl)

def ntO : Op → Bool
  | .load _ _ => true
  | .store _ _ _ => true
  | .field _ _ _ => true
  | .fieldAddr _ _ _ => true
  | .index _ _ _ => true
  | .indexAddr _ _ _ => true
  | .lookup _ _ _ _ => true
  | .extract _ _ => true
  | .build _ _ => true
  | .buildSlice _ _ _ => true
  | .slice _ _ _ _ _ => true
  | .convert _ _ _ => true
  | .makeFunc _ _ _ => true
  | .alloc _ => true
  | .box _ _ => true
  | .nilCheck _ => true
  | .mapUpdate _ _ _ _ => true
  | .call ⟨.value _, _, _⟩ => true
  | .call ⟨.builtin .append, _, _⟩ => true
  | .call ⟨.builtin .min, _, _⟩ => true
  | .call ⟨.builtin .max, _, _⟩ => true
  | _ => false
theorem nntot {op : Op} (h : ntO op = true) : totO P (st n o objs) op = none := by
  unfold ntO at h
  split at h <;> first | rfl | cases h
def ntB : BinOp → Bool
  | .add | .sub | .eql | .neq | .lss | .leq | .gtr | .geq => false
  | _ => true
theorem nntot_bin {op : BinOp} (h : ntB op = true) : totO P (st n o objs) (.binOp op t x y t') = none := by
  unfold totO; dsimp only
  cases op <;> first | (cases h; done) | skip
  all_goals (split <;> (try split) <;> simp [intO, strO])
theorem nntot_S {g : Bool} {a : ByteArray} (hx : (rawo n o x).split = (g, .v (.string a))) : totO P (st n o objs) (.binOp .add t x y t') = none := by
  unfold totO; dsimp only; rw [tot_raw, tot_raw, hx]
  split
  · rename_i h _; cases h
  · simp [strO]
  all_goals rfl
theorem nntot_B {op : BinOp} {g a : Bool} (hx : (rawo n o x).split = (g, .v (.bool a))) : totO P (st n o objs) (.binOp op t x y t') = none := by
  unfold totO; dsimp only; rw [tot_raw, tot_raw, hx]
  all_goals first | rfl | (rename_i h _; cases h)
theorem nntot_A {op : BinOp} {g : Bool} {l : List AV} (hx : (rawo n o x).split = (g, .agg l)) : totO P (st n o objs) (.binOp op t x y t') = none := by
  unfold totO; dsimp only; rw [tot_raw, tot_raw, hx]

theorem T_mv {g : Bool} {v : AV} (hx : (rawo n o x).split = (g, v)) : TotS P (.move x) n o objs (g) (v) := ⟨t_mv hx⟩
theorem T_int {op : BinOp} {q : IntKind} {a b : Int} {g h : Bool} {r : Value} (hx : (rawo n o x).split = (g, .v (.int q a))) (hy : (rawo n o y).split = (h, .v (.int q b))) (hr : intO op q a b = some r) : TotS P (.binOp op t x y t') n o objs (g && h) (.v r) := ⟨t_int hx hy hr⟩
theorem T_str {op : BinOp} {a b : ByteArray} {g h : Bool} {r : Value} (hx : (rawo n o x).split = (g, .v (.string a))) (hy : (rawo n o y).split = (h, .v (.string b))) (hr : strO op a b = some r) : TotS P (.binOp op t x y t') n o objs (g && h) (.v r) := ⟨t_str hx hy hr⟩
theorem T_eqlS {a b : Str} {g h : Bool} (hx : (rawo n o x).split = (g, .v (.string (bs a)))) (hy : (rawo n o y).split = (h, .v (.string (bs b)))) : TotS P (.binOp .eql t x y t') n o objs (g && h) (.v (.bool (decide (a = b)))) := ⟨t_eqlS hx hy⟩
theorem T_neqS {a b : Str} {g h : Bool} (hx : (rawo n o x).split = (g, .v (.string (bs a)))) (hy : (rawo n o y).split = (h, .v (.string (bs b)))) : TotS P (.binOp .neq t x y t') n o objs (g && h) (.v (.bool (!decide (a = b)))) := ⟨t_neqS hx hy⟩
theorem T_not {g b : Bool} (hx : (rawo n o x).split = (g, .v (.bool b))) : TotS P (.unOp .not t x) n o objs (g) (.v (.bool (!b))) := ⟨t_not hx⟩
theorem T_pick {g b h p i q : Bool} (hc : (rawo n o x).split = (g, .v (.bool b))) (hx : (rawo n o y).boolUn = some (h, p)) (hy : (rawo n o z).boolUn = some (i, q)) : TotS P (.pick x y z) n o objs (g && (bif b then h else i)) (.v (.bool (bif b then p else q))) := ⟨t_pick hc hx hy⟩
theorem T_lenS {g : Bool} {i : TI} {a : Str} (ht : ti P t = some i) (hd : i.desc = .string) (hx : (rawo n o x).split = (g, .v (.string (bs a)))) : TotS P (.call ⟨.builtin .len, #[x], #[t]⟩) n o objs (g) (.v (.int .i64 (a.length : Int))) := ⟨t_lenS ht hd hx⟩
theorem T_lenL {α : Type} {c : α → List D} {l : List α} {g : Bool} {i : TI} {e : TypeId} {tg : Tk} (ht : ti P t = some i) (hd : i.desc = .slice e) (hx : (rawo n o x).split = (g, .sl (l.map c) tg)) : TotS P (.call ⟨.builtin .len, #[x], #[t]⟩) n o objs (g) (.v (.int .i64 (l.length : Int))) := ⟨t_lenL ht hd hx⟩
theorem T_len0 {g : Bool} {i : TI} {e : TypeId} (ht : ti P t = some i) (hd : i.desc = .slice e) (hx : (rawo n o x).split = (g, .v (.slice none 0 0))) : TotS P (.call ⟨.builtin .len, #[x], #[t]⟩) n o objs (g) (.v (.int .i64 0)) := ⟨t_len0 ht hd hx⟩
theorem ntot {op : Op} (h : ntO op = true) : NTot P op n o objs := ⟨nntot h⟩
theorem ntot_bin {op : BinOp} (h : ntB op = true) : NTot P (.binOp op t x y t') n o objs := ⟨nntot_bin h⟩
theorem ntot_S {g : Bool} {a : ByteArray} (hx : (rawo n o x).split = (g, .v (.string a))) : NTot P (.binOp .add t x y t') n o objs := ⟨nntot_S hx⟩
theorem ntot_B {op : BinOp} {g a : Bool} (hx : (rawo n o x).split = (g, .v (.bool a))) : NTot P (.binOp op t x y t') n o objs := ⟨nntot_B hx⟩
theorem ntot_A {op : BinOp} {g : Bool} {l : List AV} (hx : (rawo n o x).split = (g, .agg l)) : NTot P (.binOp op t x y t') n o objs := ⟨nntot_A hx⟩

theorem ntot_len0 {g : Bool} (hx : (rawo n o x).split = (g, .any)) : NTot P (.call ⟨.builtin .len, #[x], #[t]⟩) n o objs := by
  refine ⟨?_⟩; unfold totO; dsimp only; rw [tot_raw, hx]; unfold lenO
  split
  · split <;> first | rfl | (rename_i h; cases h)
  · rfl
theorem ntot_x0 {op : BinOp} {g : Bool} (hx : (rawo n o x).split = (g, .any)) : NTot P (.binOp op t x y t') n o objs := by
  refine ⟨?_⟩; unfold totO; dsimp only; rw [tot_raw, tot_raw, hx]
theorem ntot_y0 {op : BinOp} {g : Bool} (hy : (rawo n o y).split = (g, .any)) : NTot P (.binOp op t x y t') n o objs := by
  refine ⟨?_⟩; unfold totO; dsimp only; rw [tot_raw, tot_raw, hy]
  split <;> first | rfl | (rename_i h _; cases h) | (rename_i h; cases h) | skip
theorem ntot_n0 {u : UnOp} {g : Bool} (hx : (rawo n o x).split = (g, .any)) : NTot P (.unOp u t x) n o objs := by
  refine ⟨?_⟩; unfold totO; cases u <;> first | rfl | (dsimp only; rw [tot_raw, hx])
theorem ntot_u1 : NTot P (.unOp .neg t x) n o objs := ⟨rfl⟩
theorem ntot_u2 : NTot P (.unOp .xor t x) n o objs := ⟨rfl⟩
theorem ntot_p0 {g : Bool} (hx : (rawo n o x).split = (g, .any)) : NTot P (.pick x y z) n o objs := by
  refine ⟨?_⟩; unfold totO; dsimp only; rw [tot_raw, tot_raw, tot_raw, hx]

section
variable {α : Type} {c : α → List D} {i j : TI} {e : TypeId} {lo hi : Option Operand} {s : List α} {l h : Int} (ht : ti P t = some i) (hd : i.desc = .slice e) (hj : ti P e = some j) (hz : ∀ r, (c r).length = j.size)
include ht hd hj hz
theorem V_ssN (hx : evo n o x = .sl (s.map c) .none) (hl : ioptAV (lo.map (evo n o)) 0 = some l) (hh : ioptAV (hi.map (evo n o)) (s.length : Int) = some h) (hb : 0 ≤ l ∧ l ≤ h ∧ h ≤ (s.length : Int)) : Val P (.slice t x lo hi none) n o objs (.sl (((s.take h.toNat).drop l.toNat).map c) .none) := V_ssL ht hd hj hz hx hl hh hb
theorem V_ssX (hx : evo n o x = .sl (s.map c) .exact) (hl : ioptAV (lo.map (evo n o)) 0 = some l) (hh : ioptAV (hi.map (evo n o)) (s.length : Int) = some h) (hb : 0 ≤ l ∧ l ≤ h ∧ h ≤ (s.length : Int)) : Val P (.slice t x lo hi none) n o objs (.sl (((s.take h.toNat).drop l.toNat).map c) .none) := V_ssL ht hd hj hz hx hl hh hb
theorem V_ssO {k : Nat} (hx : evo n o x = .sl (s.map c) (.own k)) (hl : ioptAV (lo.map (evo n o)) 0 = some l) (hh : ioptAV (hi.map (evo n o)) (s.length : Int) = some h) (hb : 0 ≤ l ∧ l ≤ h ∧ h ≤ (s.length : Int)) : Val P (.slice t x lo hi none) n o objs (.sl (((s.take h.toNat).drop l.toNat).map c) (.own k)) := V_ssL ht hd hj hz hx hl hh hb
end
theorem V_ldeW {α : Type} {c : α → List D} {l : List α} {i : TI} {k : Nat} {tg : Tk} {r : α} (ht : ti P t = some i) (ha : i.isAgg = true) (hx : evo n o x = .ep (l.map c) k 0 tg) (hr : l[k]? = some r) (hz : (c r).length = i.size) : Val P (.load t x) n o objs (ag c r) :=
  V_ldeA ht ha hx hr (by rw [Nat.zero_add, hz]; exact Nat.ble_eq_true_of_le (Nat.le_refl _)) (by rw [List.drop_zero, ← hz, List.take_length])

theorem E_allocN {e : TypeId} {i : TI} {k : Nat} {cells : List AV} (ht : ti P e = some i) (hk : objs.length = k) (hz : i.zero.map .v = cells) (ho : objs ++ [.box cells] = objs') : Eff P (.alloc e) n o objs (.ptr k 0) objs' := by
  subst ho; exact E_alloc ht hk hz
theorem E_boxN {e : TypeId} {i : TI} {k : Nat} {cs : List AV} (ht : ti P e = some i) (hk : objs.length = k) (hx : cellsAV (evo n o x) = some cs) (ho : objs ++ [.box cs] = objs') : Eff P (.box e x) n o objs (.ptr k 0) objs' := by
  subst ho; exact E_box ht hk hx
theorem E_storeN {i : TI} {k off : Nat} {cells xs cs' : List AV} (ht : ti P t = some i) (hx : evo n o x = .ptr k off) (hy : cellsAV (evo n o y) = some xs) (ho : objs[k]? = some (.box cells)) (hs : xs.length = i.size) (hl : Nat.ble (off + xs.length) cells.length = true) (hf : setFrom cells off xs = cs') (ho' : objs.set k (.box cs') = objs') : Eff P (.store t x y) n o objs .any objs' := by
  subst ho'; exact E_store ht hx hy ho hs hl hf
theorem E_mapN {k : Nat} (hk : objs.length = k) (ho : objs ++ [.map []] = objs') : Eff P (.makeMap t none) n o objs (.map k) objs' := by
  subst ho; exact E_map hk

section
variable {α : Type} {c : α → List D} {i j : TI} {e : TypeId} {l l2 : List α} {tg : Tk} (ht : ti P t = some i) (hd : i.desc = .slice e) (hj : ti P e = some j) (h0 : 0 < j.size ∧ 0 < j.bytes) (hz : ∀ r, (c r).length = j.size)
include ht hd hj h0 hz
theorem E_app0N {k : Nat} (hx : evo n o x = .v (.slice none 0 0)) (hy : evo n o y = .sl (l2.map c) tg) (hb : l2.length * j.bytes ≤ 140737488355328) (hk : objs.length = k) (ho : objs ++ [.tok l2.length j.size e true] = objs') :
    Eff P (.call ⟨.builtin .append, #[x, y], #[t, t]⟩) n o objs (.sl (l2.map c) (.own k)) objs' := by
  subst ho; subst hk; exact E_app0 ht hd hj h0 hz hx hy hb
theorem E_appxN {k : Nat} (hx : evo n o x = .sl (l.map c) .exact) (hy : evo n o y = .sl (l2.map c) tg) (hpos : 0 < l.length + l2.length) (hb : (l.length + l2.length) * j.bytes ≤ 140737488355328) (hk : objs.length = k) (ho : objs ++ [.tok (l ++ l2).length j.size e l.isEmpty] = objs') :
    Eff P (.call ⟨.builtin .append, #[x, y], #[t, t]⟩) n o objs (.sl ((l ++ l2).map c) (.own k)) objs' := by
  subst ho; subst hk; exact E_appx ht hd hj h0 hz hx hy hpos hb
theorem E_appoN {k : Nat} {ex : Bool} {len : Nat} (hx : evo n o x = .sl (l.map c) (.own k)) (hy : evo n o y = .sl (l2.map c) tg) (ho : objs[k]? = some (.tok len j.size e ex)) (hln : len = l.length) (hb : (l.length + l2.length) * j.bytes ≤ 140737488355328) (ho' : objs.set k (.tok (l ++ l2).length j.size e ex) = objs') :
    Eff P (.call ⟨.builtin .append, #[x, y], #[t, t]⟩) n o objs (.sl ((l ++ l2).map c) (.own k)) objs' := by
  subst ho'; exact E_appo ht hd hj h0 hz hx hy ho hln hb
end
theorem app_nil {i j : TI} {e : TypeId} (ht : ti P t = some i) (hd : i.desc = .slice e) (hj : ti P e = some j) (h0 : 0 < j.size ∧ 0 < j.bytes) {α : Type} {c : α → List D} {l : List α} {k : Nat} {ex : Bool} {len : Nat} (hz : ∀ r, (c r).length = j.size) (hx : evo n o x = .sl (l.map c) (.own k)) (hy : evo n o y = .v (.slice none 0 0)) (ho : objs[k]? = some (.tok len j.size e ex)) (hln : len = l.length) (hb : (l.length + 0) * j.bytes ≤ 140737488355328) (ho' : objs.set k (.tok l.length j.size e ex) = objs') :
    Eff P (.call ⟨.builtin .append, #[x, y], #[t, t]⟩) n o objs (.sl (l.map c) (.own k)) objs' := by
  subst ho'
  refine ⟨?_⟩; intro p N E hp hN; unfold aop; rw [hp]; dsimp only [List.map, Array.toList]; rw [eval_st, eval_st, hx, hy]
  obtain ⟨_, k3⟩ := app_rows (l2 := l) (tg := .own k) (y := x) ht hd hj h0 hz hx
  unfold builtinAV; dsimp only; unfold appendAV; rw [ht]; dsimp only; rw [hd]; dsimp only; rw [hj]; dsimp only
  rw [show appRows P t t e (.v (.slice none 0 0)) = some [] by simp [appRows]]; dsimp only; rw [ho]
  refine ⟨h0.1, h0.2, by simp, by rw [List.length_map]; exact hln, rfl, rfl, k3, by rw [List.length_map]; exact hb, ?_⟩
  rw [List.length_map, List.append_nil]; exact hN
end

section
variable {P : Program} {n0 n k : Nat} {I : Nat → AS → Prop} {Q : AX → AS → Prop} {E : AV → List Obj → Prop} {β : Type} {m m1 m2 : Option β} {Φ : β → Prop} {o : List (Nat × AV)} {objs : List Obj} {s : AS}
theorem R_nextL {σ : Type} {ph : σ → List (Nat × AV)} {ob : σ → List Obj} {Ψ : σ → Prop} {x' : σ}
    (hN : ∀ x', Ψ x' → ∀ s', Weak n0 s' ⟨ov n (ph x'), ob x'⟩ → loopQ n0 I k Q .normal s') (hw : Weak n0 s ⟨ov n (ph x'), ob x'⟩) : H (nextM x' : Option (σ ⊕ β)) (Sum.elim Ψ Φ) (loopQ n0 I k Q .normal s) := R_next (N := loopQ n0 I k Q .normal) hN hw
theorem R_nextJ {σ : Type} {ph : σ → List (Nat × AV)} {ob : σ → List Obj} {Ψ : σ → Prop} {N : AS → Prop} {x' : σ}
    (hN : ∀ x', Ψ x' → ∀ s', Weak n0 s' ⟨ov n (ph x'), ob x'⟩ → seqQ n0 N Q .normal s') (hw : Weak n0 s ⟨ov n (ph x'), ob x'⟩) : H (nextM x' : Option (σ ⊕ β)) (Sum.elim Ψ Φ) (seqQ n0 N Q .normal s) := R_next (N := seqQ n0 N Q .normal) hN hw
theorem R_cT {c : Operand} {t e : Code} (hc : evo n o c = .v (.bool true)) (h : H m Φ (awp P n0 t (st n o objs) Q E)) : H m Φ (awp P n0 (.cond c t e) (st n o objs) Q E) := R_condT (by rw [eval_st]; exact hc) h
theorem R_cF {c : Operand} {t e : Code} (hc : evo n o c = .v (.bool false)) (h : H m Φ (awp P n0 e (st n o objs) Q E)) : H m Φ (awp P n0 (.cond c t e) (st n o objs) Q E) := R_condF (by rw [eval_st]; exact hc) h
theorem R_lpe {i : Nat} (h : H m Φ (Q (.exit i) s)) : H m Φ (loopQ n0 I k Q (.exit i) s) := h
theorem R_lpr (h : H m Φ (Q .ret s)) : H m Φ (loopQ n0 I k Q .ret s) := h
def drawM {β : Type} (m : Option β) : Option β := m
theorem R_draw {id : Nat} {l : List Oper} (e1 : P.follows .mixedOrders = true) (e2 : Region.lexB .any l.toArray = true) (h : H m Φ (aopsC P l.toArray l s (Q .normal))) : H (drawM m) Φ (awp P n0 (.region id l.toArray true) s Q E) := R_regionC e1 e2 h
theorem R_tokC {d sz e kk : Nat} {c : Code} {objs' : List Obj} (hd : d < n) (h : og o d = .v (.slice none 0 0)) (hk : objs.length = kk) (ho : objs ++ [.tok 0 sz e true] = objs') (hr : H m Φ (awp P n0 (.loop c) (st n (oc d (.sl [] (.own kk)) o) objs') Q E)) : H (tokM d sz e m) Φ (awp P n0 (.loop c) (st n o objs) Q E) := by
  subst hk; subst ho
  intro y hy hp
  obtain ⟨I, ⟨a, s', h1, h2⟩, h3⟩ := hr y hy hp
  exact ⟨I, ⟨a, s', (W_tok hd h).trans h1, h2⟩, h3⟩
end

def tiFind : List (Nat × TI) → Nat → Option TI
  | [], _ => none
  | (k, i) :: l, t => bif Nat.beq t k then some i else tiFind l t
theorem tiFind_ok {P : Program} : ∀ {l : List (Nat × TI)}, (∀ e ∈ l, ti P e.1 = some e.2) → ∀ {t : Nat} {i : TI}, tiFind l t = some i → ti P t = some i
  | [], _, _, _, h => by cases h
  | (k, j) :: l, hl, t, i, h => by
    unfold tiFind at h
    cases hb : Nat.beq t k with
    | true =>
      rw [hb] at h
      have e : t = k := Nat.eq_of_beq_eq_true hb
      subst e
      simp only [cond_true, Option.some.injEq] at h
      subst h
      exact hl (t, j) List.mem_cons_self
    | false =>
      rw [hb] at h
      exact tiFind_ok (fun e he => hl e (List.mem_cons_of_mem _ he)) (by simpa using h)

/-! ### Composite values, by a table of types -/
def placeT (L : List (Nat × TI)) (i : TI) (j : Nat) : Option (Nat × Nat) :=
  match i.desc with
  | .struct fs => (fs.toList[j]?).bind fun (f : Field) => (tiFind L f.type).map fun x => (f.offset, x.size)
  | .array _ e => (tiFind L e).map fun x => (j * x.size, x.size)
  | _ => none
def allT (L : List (Nat × TI)) (i : TI) : Bool :=
  match i.desc with
  | .struct fs => fs.toList.all fun (f : Field) => (tiFind L f.type).isSome
  | .array _ e => (tiFind L e).isSome
  | _ => false
theorem fill_mono {p q : Nat → Option (Nat × Nat)} (h : ∀ j v, p j = some v → q j = some v) : ∀ {parts : List (Nat × AV)} {cs out : List AV}, fillAV p cs parts = some out → fillAV q cs parts = some out
  | [], _, _, hf => hf
  | (j, x) :: rest, cs, out, hf => by
    simp only [fillAV] at hf ⊢
    cases hp : p j with
    | none => rw [hp] at hf; cases hf
    | some v =>
      obtain ⟨off, size⟩ := v
      rw [hp] at hf
      rw [h j _ hp]
      cases hc : cellsAV x with
      | none => rw [hc] at hf; cases hf
      | some xs =>
        rw [hc] at hf
        simp only at hf ⊢
        split at hf
        · rename_i hh; rw [if_pos hh]; exact fill_mono h hf
        · cases hf
section
variable {P : Program} {L : List (Nat × TI)} {n : Nat} {o : List (Nat × AV)} {objs : List Obj} {t : TypeId} {parts : Array (Nat × Operand)} {i : TI} {cs : List AV}
theorem V_bldT (hL : ∀ {t : Nat} {i : TI}, tiFind L t = some i → ti P t = some i) (ht : tiFind L t = some i) (ha : allT L i = true) (h : fillAV (placeT L i) (i.zero.map .v) (parts.toList.map fun p => (p.1, evo n o p.2)) = some cs) : Val P (.build t parts) n o objs (.agg cs) := by
  refine V_bld (hL ht) ?_ (fill_mono ?_ h)
  · unfold allT at ha
    split at ha
    · rename_i fs hd
      (try rw [hd])
      show allTi P fs.toList = true
      generalize fs.toList = l at ha
      induction l with
      | nil => rfl
      | cons f l ih =>
        simp only [List.all_cons, Bool.and_eq_true] at ha
        obtain ⟨x, hx⟩ := Option.isSome_iff_exists.1 ha.1
        simp only [allTi, hL hx, Option.isSome_some, Bool.true_and]
        exact ih ha.2
    · rename_i k e hd
      (try rw [hd])
      obtain ⟨x, hx⟩ := Option.isSome_iff_exists.1 ha
      show (ti P e).isSome = true
      rw [hL hx]; rfl
    · cases ha
  · intro j v hv
    unfold placeT at hv
    unfold placeOf
    split at hv
    · rename_i fs hd
      (try rw [hd])
      simp only [Array.getElem?_toList] at hv
      cases hf : fs[j]? with
      | none => rw [hf] at hv; cases hv
      | some f =>
        rw [hf] at hv
        simp only [Option.bind_some] at hv ⊢
        cases hx : tiFind L f.type with
        | none => rw [hx] at hv; cases hv
        | some x => rw [hx] at hv; rw [hf]; simp only [Option.bind_some]; rw [hL hx]; exact hv
    · rename_i k e hd
      (try rw [hd])
      simp only
      cases hx : tiFind L e with
      | none => rw [hx] at hv; cases hv
      | some x => rw [hx] at hv; rw [hL hx]; exact hv
    · cases hv
end
end Go.Proofs.YtcpjmkbcefmldaaGreatDoor.AM

/- The steps of a region, in one form for all orders. -/
namespace Go.Proofs.YtcpjmkbcefmldaaGreatDoor.AM
open Go

inductive Mo where
  | p | q | c
def rg (md : Mo) (P : Program) (ops l : List Oper) (s : AS) (K : AS → Prop) (E : AV → List Obj → Prop) : Prop :=
  match md with
  | .p => aops P ops l s K E
  | .q => aopsQ P ops l s K
  | .c => aopsC P ops.toArray l s K
def kst (md : Mo) (ops : List Oper) (p : Oper) (o : List (Nat × AV)) : List (Nat × AV) :=
  match md with
  | .c => okeep (Oper.looksAt ops.toArray p) o
  | _ => o
def rv (md : Mo) (gd : Option (Nat × Bool)) (v : AV) : AV :=
  match md, gd with
  | .c, some _ => .cnd true v
  | _, _ => v
def moOk (md : Mo) (op : Op) : Bool :=
  match md with
  | .q => isQ op
  | _ => true
def gev (n : Nat) (o : List (Nat × AV)) (ops : List Oper) : Option (Nat × Bool) → Option Bool
  | none => some true
  | some (j, w) => gslo n o w (dstAt ops j)
inductive NTg (P : Program) (op : Op) (n : Nat) (o : List (Nat × AV)) (objs : List Obj) : Option (Nat × Bool) → Prop
  | no : NTg P op n o objs none
  | so {j : Nat} {w : Bool} (h : NTot P op n o objs) : NTg P op n o objs (some (j, w))

section
variable {md : Mo} {P : Program} {β : Type} {m : Option β} {Φ : β → Prop} {ops rest : List Oper} {K : AS → Prop} {E : AV → List Obj → Prop} {n d : Nat} {o : List (Nat × AV)} {objs objs' : List Obj} {op : Op} {ty : TypeId} {pos : String} {af : Array Edge} {v : AV} {gd : Option (Nat × Bool)} {g c : Bool}


theorem M_run (hm : moOk md op = true) (hg : gev n (kst md ops ⟨some d, op, ty, pos, af, gd⟩ o) ops gd = some true) (ht : NTg P op n (kst md ops ⟨some d, op, ty, pos, af, gd⟩ o) objs gd)
    (hop : Val P op n (kst md ops ⟨some d, op, ty, pos, af, gd⟩ o) objs v) (h : H m Φ (rg md P ops rest (st n (oc d (rv md gd v) o) objs) K E)) :
    H m Φ (rg md P ops (⟨some d, op, ty, pos, af, gd⟩ :: rest) (st n o objs) K E) := by
  cases gd with
  | none =>
    cases md with
    | p => exact S_v hop h
    | q => exact Q_v hm hop h
    | c => exact C_v rfl rfl hop h
  | some jw =>
    obtain ⟨j, w⟩ := jw
    cases ht with
    | so ht =>
      cases md with
      | p => exact G_v (gcond_st rfl hg) ht hop h
      | q => exact QG_v hm (gcond_st rfl hg) ht hop h
      | c => exact CG_v rfl rfl (gcond_st rfl hg) hop h
theorem M_let {α : Type} {enc : α → AV} {e : α} {m : α → Option β} (hm : moOk md op = true) (hg : gev n (kst md ops ⟨some d, op, ty, pos, af, gd⟩ o) ops gd = some true) (ht : NTg P op n (kst md ops ⟨some d, op, ty, pos, af, gd⟩ o) objs gd)
    (hop : Val P op n (kst md ops ⟨some d, op, ty, pos, af, gd⟩ o) objs (enc e)) (h : ∀ z, H (m z) Φ (rg md P ops rest (st n (oc d (rv md gd (enc z)) o) objs) K E)) :
    H (letE enc e m) Φ (rg md P ops (⟨some d, op, ty, pos, af, gd⟩ :: rest) (st n o objs) K E) := M_run hm hg ht hop (h e)
theorem M_tot {j : Nat} {w : Bool} (hm : moOk md op = true) (hg : gslo n (kst md ops ⟨some d, op, ty, pos, af, some (j, w)⟩ o) w (dstAt ops j) = some g) (ht : TotS P op n (kst md ops ⟨some d, op, ty, pos, af, some (j, w)⟩ o) objs c v) (hi : g = true → c = true)
    (h : H m Φ (rg md P ops rest (st n (oc d (.cnd g v) o) objs) K E)) : H m Φ (rg md P ops (⟨some d, op, ty, pos, af, some (j, w)⟩ :: rest) (st n o objs) K E) := by
  cases md with
  | p => exact G_tot (gcond_st rfl hg) ht hi h
  | q => exact QG_tot hm (gcond_st rfl hg) ht hi h
  | c => exact CG_tot rfl rfl (gcond_st rfl hg) ht hi h
theorem M_totE {α : Type} {enc : α → AV} {e : α} {m : α → Option β} {j : Nat} {w : Bool} (hm : moOk md op = true) (hg : gslo n (kst md ops ⟨some d, op, ty, pos, af, some (j, w)⟩ o) w (dstAt ops j) = some g) (ht : TotS P op n (kst md ops ⟨some d, op, ty, pos, af, some (j, w)⟩ o) objs c (enc e)) (hi : g = true → c = true)
    (h : ∀ z, H (m z) Φ (rg md P ops rest (st n (oc d (.cnd g (enc z)) o) objs) K E)) : H (letE enc e m) Φ (rg md P ops (⟨some d, op, ty, pos, af, some (j, w)⟩ :: rest) (st n o objs) K E) := M_tot hm hg ht hi (h e)
theorem M_off {j : Nat} {w : Bool} (hm : moOk md op = true) (hg : gslo n (kst md ops ⟨some d, op, ty, pos, af, some (j, w)⟩ o) w (dstAt ops j) = some false) (ht : NTot P op n (kst md ops ⟨some d, op, ty, pos, af, some (j, w)⟩ o) objs)
    (h : H m Φ (rg md P ops rest (st n (oc d (.cnd false .any) o) objs) K E)) : H m Φ (rg md P ops (⟨some d, op, ty, pos, af, some (j, w)⟩ :: rest) (st n o objs) K E) := by
  cases md with
  | p => exact G_off (gcond_st rfl hg) ht h
  | q => exact QG_off hm (gcond_st rfl hg) ht h
  | c => exact CG_off rfl rfl (gcond_st rfl hg) h
theorem M_eff (hg : gev n o ops gd = some true) (ht : NTg P op n o objs gd) (hop : Eff P op n o objs v objs') (h : H m Φ (rg .p P ops rest (st n (oc d v o) objs') K E)) : H m Φ (rg .p P ops (⟨some d, op, ty, pos, af, gd⟩ :: rest) (st n o objs) K E) := by
  cases gd with
  | none => exact S_e hop h
  | some jw =>
    obtain ⟨j, w⟩ := jw
    cases ht with
    | so ht => exact G_e (gcond_st rfl hg) ht hop h
theorem M_eff0 (hg : gev n o ops gd = some true) (ht : NTg P op n o objs gd) (hop : Eff P op n o objs v objs') (h : H m Φ (rg .p P ops rest (st n o objs') K E)) : H m Φ (rg .p P ops (⟨none, op, ty, pos, af, gd⟩ :: rest) (st n o objs) K E) := by
  cases gd with
  | none => exact S_e0 hop h
  | some jw =>
    obtain ⟨j, w⟩ := jw
    cases ht with
    | so ht => exact S_on (s := st n o objs) (s' := st n o objs') (j := j) (want := w) rfl (gcond_st rfl hg) ht.eq (fun N E hN => hop.run _ N E rfl hN) h
theorem M_letO {α : Type} {enc : α → AV} {ob : α → List Obj} {e : α} {m : α → Option β} (hg : gev n o ops gd = some true) (ht : NTg P op n o objs gd) (hop : Eff P op n o objs (enc e) (ob e)) (h : ∀ z, H (m z) Φ (rg .p P ops rest (st n (oc d (enc z) o) (ob z)) K E)) : H (letO enc ob e m) Φ (rg .p P ops (⟨some d, op, ty, pos, af, gd⟩ :: rest) (st n o objs) K E) := M_eff hg ht hop (h e)
theorem M_letO0 {α : Type} {enc : α → AV} {ob : α → List Obj} {e : α} {m : α → Option β} (hg : gev n o ops gd = some true) (ht : NTg P op n o objs gd) (hop : Eff P op n o objs v (ob e)) (h : ∀ z, H (m z) Φ (rg .p P ops rest (st n o (ob z)) K E)) : H (letO enc ob e m) Φ (rg .p P ops (⟨none, op, ty, pos, af, gd⟩ :: rest) (st n o objs) K E) := M_eff0 hg ht hop (h e)
end

section
variable {P : Program} {β α : Type} {m : α → Option β} {Φ : β → Prop} {ops rest : List Oper} {K : AS → Prop} {E : AV → List Obj → Prop} {n d g : Nat} {o o1 : List (Nat × AV)} {objs objs1 : List Obj} {ty : TypeId} {pos : String} {af : Array Edge} {gd : Option (Nat × Bool)}
  {cal : Operand} {args : Array Operand} {at' : Array TypeId} {first cap args' : List AV} {e : Option α} {X : α → AV} {O : α → List Obj} {enc : α → AV} {ob : α → List Obj}
theorem M_call (hg : gev n o ops gd = some true) (hc : evo n o cal = .fn g first cap) (hen : enters P g = true) (hf : ∀ r, e = some r → Fun P g args' (X r) (O r)) (ha : AV.idsLtL 0 args' = true)
    (hle : AV.leL (AV.stripL (first ++ args.toList.map (evo n o) ++ cap)) args')
    (hp : AV.pubL objs (first ++ args.toList.map (evo n o) ++ cap) = objs1)
    (hx : ∀ r, (X r).shift objs1.length = enc r)
    (ho : ∀ r, objs1 ++ (O r).map (Obj.shift objs1.length) = ob r)
    (h : ∀ r, H (m r) Φ (rg .p P ops rest (st n (oc d (enc r) o) (ob r)) K E)) : H (callM enc ob e m) Φ (rg .p P ops (⟨some d, .call ⟨.value cal, args, at'⟩, ty, pos, af, gd⟩ :: rest) (st n o objs) K E) := by
  subst hp
  cases gd with
  | none => exact S_call hc hen hf ha hle hx ho h
  | some jw => obtain ⟨j, w⟩ := jw; exact S_callG (gcond_st rfl hg) hc hen hf ha hle hx ho h
theorem M_callC (hg : gev n (kst .c ops ⟨some d, .call ⟨.value cal, args, at'⟩, ty, pos, af, gd⟩ o) ops gd = some true) (hc : evo n (kst .c ops ⟨some d, .call ⟨.value cal, args, at'⟩, ty, pos, af, gd⟩ o) cal = .fn g first cap) (hen : enters P g = true) (hf : ∀ r, e = some r → Fun P g args' (X r) (O r)) (ha : AV.idsLtL 0 args' = true)
    (hle : AV.leL (AV.stripL (first ++ args.toList.map (evo n (kst .c ops ⟨some d, .call ⟨.value cal, args, at'⟩, ty, pos, af, gd⟩ o)) ++ cap)) args')
    (hp : AV.pubL objs (first ++ args.toList.map (evo n (kst .c ops ⟨some d, .call ⟨.value cal, args, at'⟩, ty, pos, af, gd⟩ o)) ++ cap) = objs)
    (hx : ∀ r, (X r).shift objs.length = enc r) (ho : ∀ r, O r = [])
    (h : ∀ r, H (m r) Φ (rg .c P ops rest (st n (oc d (rv .c gd (enc r)) o) objs) K E)) : H (callM enc ob e m) Φ (rg .c P ops (⟨some d, .call ⟨.value cal, args, at'⟩, ty, pos, af, gd⟩ :: rest) (st n o objs) K E) := by
  have ho' : ∀ r, AV.pubL objs (first ++ args.toList.map (evo n (kst .c ops ⟨some d, .call ⟨.value cal, args, at'⟩, ty, pos, af, gd⟩ o)) ++ cap) ++ (O r).map (Obj.shift (AV.pubL objs (first ++ args.toList.map (evo n (kst .c ops ⟨some d, .call ⟨.value cal, args, at'⟩, ty, pos, af, gd⟩ o)) ++ cap)).length) = objs := by
    intro r; rw [hp, ho r]; simp
  have hx' : ∀ r, (X r).shift (AV.pubL objs (first ++ args.toList.map (evo n (kst .c ops ⟨some d, .call ⟨.value cal, args, at'⟩, ty, pos, af, gd⟩ o)) ++ cap)).length = enc r := by
    intro r; rw [hp]; exact hx r
  cases gd with
  | none => exact S_callC (ob := ob) rfl rfl hc hen hf ha hle hx' ho' h
  | some jw => obtain ⟨j, w⟩ := jw; exact CG_call (ob := ob) rfl rfl (gcond_st rfl hg) hc hen hf ha hle hx' ho' h
end

section
variable {P : Program} {n0 n : Nat} {Q : AX → AS → Prop} {E : AV → List Obj → Prop} {β : Type} {m : Option β} {Φ : β → Prop} {s : AS} {K : AS → Prop} {ops : List Oper}
theorem M_reg {id : Nat} {l : List Oper} (h : H m Φ (rg .p P l l s (Q .normal) E)) : H m Φ (awp P n0 (.region id l.toArray false) s Q E) := R_region h
theorem M_regQ {id : Nat} {l : List Oper} (e1 : P.follows .mixedOrders = true) (e2 : Region.lexB .any l.toArray = true) (h : H m Φ (rg .q P l l s (Q .normal) E)) : H m Φ (awp P n0 (.region id l.toArray true) s Q E) := R_regionQ e1 e2 h
theorem M_regC {id : Nat} {l : List Oper} (e1 : P.follows .mixedOrders = true) (e2 : Region.lexB .any l.toArray = true) (h : H m Φ (rg .c P l l s (Q .normal) E)) : H (drawM m) Φ (awp P n0 (.region id l.toArray true) s Q E) := R_draw e1 e2 h
theorem M_endp (h : H m Φ (K s)) : H m Φ (rg .p P ops [] s K E) := h
theorem M_endq (h : H m Φ (K s)) : H m Φ (rg .q P ops [] s K E) := h
theorem M_endc (h : H m Φ (K s)) : H m Φ (rg .c P ops [] s K E) := h
end
end Go.Proofs.YtcpjmkbcefmldaaGreatDoor.AM

/- Maps and objects that change places, for the models. -/
namespace Go.Proofs.YtcpjmkbcefmldaaGreatDoor.AM
open Go

/-! ### Maps -/
def mlk {κ α : Type} [DecidableEq κ] : List (κ × α) → κ → Option α
  | [], _ => none
  | (a, x) :: es, k => if k = a then some x else mlk es k
def mst {κ α : Type} [DecidableEq κ] : List (κ × α) → κ → α → List (κ × α)
  | [], k, x => [(k, x)]
  | (a, y) :: es, k, x => if k = a then (k, x) :: es else (a, y) :: mst es k x
def mdl {κ α : Type} [DecidableEq κ] : List (κ × α) → κ → List (κ × α)
  | [], _ => []
  | (a, y) :: es, k => if k = a then es else (a, y) :: mdl es k
def mp {κ α : Type} (kv : κ → Value) (av : α → AV) (es : List (κ × α)) : List (Value × AV) := es.map fun e => (kv e.1, av e.2)
def kS (s : Str) : Value := .string (bs s)
def kI (x : Int) : Value := .int .i64 x
structure KeyOk {κ : Type} [DecidableEq κ] (kv : κ → Value) (d : TypeDesc) : Prop where
  eq : ∀ a b, keyEq (kv a) (kv b) = decide (a = b)
  ok : ∀ a, keyOk d (kv a) = true
structure KeyA {κ : Type} [DecidableEq κ] (P : Program) (kv : κ → Value) (d : TypeDesc) : Prop where
  eq : ∀ a b, keyEq (kv a) (kv b) = decide (a = b)
  fit : ∀ a, KFit P d (kv a)
theorem KeyOk.a {κ : Type} [DecidableEq κ] {P : Program} {kv : κ → Value} {d : TypeDesc} (h : KeyOk kv d) : KeyA P kv d := ⟨h.eq, fun a => .inl (h.ok a)⟩
theorem KeyA.all {κ α : Type} [DecidableEq κ] {P : Program} {kv : κ → Value} {av : α → AV} {d : TypeDesc} (h : KeyA P kv d) (es : List (κ × α)) : ∀ e ∈ es.map (fun e => (kv e.1, av e.2)), KFit P d e.1 := by
  intro e he
  obtain ⟨p, _, rfl⟩ := List.mem_map.1 he
  exact h.fit p.1
theorem kq_s : KeyOk kS .string := ⟨fun a b => by simp only [kS, keyEq]; exact dec_bs a b, fun _ => rfl⟩
theorem kq_i : KeyOk kI (.int .i64) := ⟨fun a b => by simp [kI, keyEq], fun _ => rfl⟩
section
variable {κ α : Type} [DecidableEq κ] {kv : κ → Value} {av : α → AV} {d : TypeDesc}
theorem mget_mpE (h : ∀ a b, keyEq (kv a) (kv b) = decide (a = b)) (k : κ) : ∀ es : List (κ × α), mget (mp kv av es) (kv k) = (mlk es k).map av
  | [] => rfl
  | (a, x) :: es => by
    have ih := mget_mpE h k es
    simp only [mp, List.map_cons, mget, mlk, h] at ih ⊢
    by_cases hk : k = a
    · simp [hk]
    · simp [hk, ih]
theorem mset_mpE (h : ∀ a b, keyEq (kv a) (kv b) = decide (a = b)) (k : κ) (x : α) : ∀ es : List (κ × α), mset (mp kv av es) (kv k) (av x) = mp kv av (mst es k x)
  | [] => rfl
  | (a, y) :: es => by
    have ih := mset_mpE h k x es
    simp only [mp, List.map_cons, mset, mst, h] at ih ⊢
    by_cases hk : k = a
    · simp [hk]
    · simp [hk, ih]
theorem keys_mp (h : KeyOk kv d) (es : List (κ × α)) : keysOk d (mp kv av es) := by
  intro e he
  obtain ⟨p, _, rfl⟩ := List.mem_map.1 he
  exact h.ok p.1
theorem mp_below {n : Nat} {es : List (κ × α)} (h : ∀ a, (av a).idsLt n = true) : (Obj.map (mp kv av es)).idsLt n = true := by
  simp only [Obj.idsLt, List.all_eq_true]
  intro e he
  obtain ⟨p, _, rfl⟩ := List.mem_map.1 he
  exact h p.2
theorem bel_cons {n : Nat} {x : Obj} {xs : List Obj} (h : x.idsLt n = true) (k : belowObjs n xs = true) : belowObjs n (x :: xs) = true := by
  unfold belowObjs; rw [h, k]; rfl
end
def lookM {κ α β : Type} [DecidableEq κ] (es : List (κ × α)) (k : κ) (f : α → Option β) (g : Option β) : Option β := match mlk es k with | some x => f x | none => g
theorem H_lookM {κ α β : Type} [DecidableEq κ] {es : List (κ × α)} {k : κ} {f : α → Option β} {g : Option β} {Φ : β → Prop} {G : Prop} (h1 : ∀ x, mlk es k = some x → H (f x) Φ G) (h2 : mlk es k = none → H g Φ G) : H (lookM es k f g) Φ G := by
  intro y hy hp
  unfold lookM at hy
  cases hl : mlk es k with
  | none => rw [hl] at hy; exact h2 hl y hy hp
  | some x => rw [hl] at hy; exact h1 x hl y hy hp

section
variable {P : Program} {n : Nat} {o : List (Nat × AV)} {objs objs' : List Obj} {x y z : Operand} {t : TypeId}
theorem E_mapL {k : Nat} (hk : objs.length = k) (ho : objs ++ [.map []] = objs') : Eff P (.makeMap t none) n o objs (.map k) objs' := E_mapN hk ho
section
variable {κ α : Type} [DecidableEq κ] {kv : κ → Value} {av : α → AV} {es : List (κ × α)} {i ki : TI} {kt et : TypeId} {k : Nat} {key : κ} {zv : Value}
  (ht : ti P t = some i) (hd : i.desc = .map kt et) (hk : ti P kt = some ki) (hx : evo n o x = .map k) (ho : objs[k]? = some (.map (mp kv av es)))
section
variable (hq : KeyA P kv ki.desc) (hy : akey (evo n o y) = some (kv key))
include ht hd hk hx ho hq hy
theorem lk_opA {ok : Bool} {v : AV} (hz : (P.info? et).bind (·.zero) = some zv) (h1 : ∀ a, mlk es key = some a → v = if ok then .tup [av a, .v (.bool true)] else av a) (h2 : mlk es key = none → v = if ok then .tup [AV.ofValue zv, .v (.bool false)] else AV.ofValue zv) : Val P (.lookup t x y ok) n o objs v := by
  refine ⟨?_⟩; intro p N E hp hN; unfold aop; rw [hp]; dsimp only; rw [eval_st, eval_st, hx]; unfold lookupAV; rw [ht]; dsimp only; rw [hd]; dsimp only; rw [hk, hz, hy]; dsimp only; rw [ho]; dsimp only
  refine ⟨hq.fit key, hq.all es, fun u hu => ?_, fun hu => ?_⟩
  · rw [mget_mpE hq.eq] at hu
    cases hl : mlk es key with
    | none => rw [hl] at hu; cases hu
    | some a => rw [hl] at hu; cases hu; rw [h1 a hl] at hN; exact hN
  · rw [mget_mpE hq.eq] at hu
    cases hl : mlk es key with
    | none => rw [h2 hl] at hN; exact hN
    | some a => rw [hl] at hu; cases hu
theorem E_mpuA {a : α} {w : AV} (hw : evo n o z = w) (hv : w = av a) (ho' : objs.set k (.map (mp kv av (mst es key a))) = objs') : Eff P (.mapUpdate t x y z) n o objs .any objs' := by
  refine ⟨?_⟩; intro p N E hp hN; unfold aop; rw [hp]; dsimp only; rw [eval_st, eval_st, eval_st, hx, hw, hv]; unfold mapUpdateAV; rw [ht]; dsimp only; rw [hd]; dsimp only; rw [hk, hy]; dsimp only; rw [ho]; dsimp only
  refine ⟨hq.fit key, hq.all es, ?_⟩
  rw [mset_mpE hq.eq, ho']; exact hN
end
variable (hq : KeyOk kv ki.desc) (hy : evo n o y = .v (kv key))
include ht hd hk hx ho hq hy
theorem lk_op {ok : Bool} {v : AV} (hz : (P.info? et).bind (·.zero) = some zv) (h1 : ∀ a, mlk es key = some a → v = if ok then .tup [av a, .v (.bool true)] else av a) (h2 : mlk es key = none → v = if ok then .tup [AV.ofValue zv, .v (.bool false)] else AV.ofValue zv) : Val P (.lookup t x y ok) n o objs v :=
  lk_opA ht hd hk hx ho hq.a (by rw [hy]; rfl) hz h1 h2
theorem V_lkT {a : α} (hz : (P.info? et).bind (·.zero) = some zv) (hl : mlk es key = some a) : Val P (.lookup t x y true) n o objs (.tup [av a, .v (.bool true)]) :=
  lk_op ht hd hk hx ho hq hy hz (fun b hb => by rw [hl] at hb; cases hb; rfl) (fun h => by rw [hl] at h; cases h)
theorem V_lkN (hz : (P.info? et).bind (·.zero) = some zv) (hl : mlk es key = none) : Val P (.lookup t x y true) n o objs (.tup [AV.ofValue zv, .v (.bool false)]) :=
  lk_op ht hd hk hx ho hq hy hz (fun b hb => by rw [hl] at hb; cases hb) (fun _ => rfl)
theorem V_lkT1 {a : α} (hz : (P.info? et).bind (·.zero) = some zv) (hl : mlk es key = some a) : Val P (.lookup t x y false) n o objs (av a) :=
  lk_op ht hd hk hx ho hq hy hz (fun b hb => by rw [hl] at hb; cases hb; rfl) (fun h => by rw [hl] at h; cases h)
theorem V_lkN1 (hz : (P.info? et).bind (·.zero) = some zv) (hl : mlk es key = none) : Val P (.lookup t x y false) n o objs (AV.ofValue zv) :=
  lk_op ht hd hk hx ho hq hy hz (fun b hb => by rw [hl] at hb; cases hb) (fun _ => rfl)
theorem E_mpu {a : α} {w : AV} (hw : evo n o z = w) (hv : w = av a) (ho' : objs.set k (.map (mp kv av (mst es key a))) = objs') : Eff P (.mapUpdate t x y z) n o objs .any objs' :=
  E_mpuA ht hd hk hx ho hq.a (by rw [hy]; rfl) hw hv ho'
end
section
variable {κ : Type} [DecidableEq κ] {kv : κ → Value} {i ki : TI} {kt et : TypeId} {k : Nat} {key : κ}
  (ht : ti P t = some i) (hd : i.desc = .map kt et) (hk : ti P kt = some ki) (hx : evo n o x = .map k)
include ht hd hk hx
theorem V_lkB {es : List (κ × Bool)} (ho : objs[k]? = some (.map (mp kv vB es))) (hq : KeyOk kv ki.desc) (hy : evo n o y = .v (kv key)) (hz : (P.info? et).bind (·.zero) = some (.bool false)) : Val P (.lookup t x y false) n o objs (.v (.bool ((mlk es key).getD false))) :=
  lk_op ht hd hk hx ho hq hy hz (fun b hb => by rw [hb]; rfl) (fun h => by rw [h]; rfl)
theorem V_lkBA {es : List (κ × Bool)} (ho : objs[k]? = some (.map (mp kv vB es))) (hq : KeyA P kv ki.desc) (hy : akey (evo n o y) = some (kv key)) (hz : (P.info? et).bind (·.zero) = some (.bool false)) : Val P (.lookup t x y false) n o objs (.v (.bool ((mlk es key).getD false))) :=
  lk_opA ht hd hk hx ho hq hy hz (fun b hb => by rw [hb]; rfl) (fun h => by rw [h]; rfl)
theorem V_lkI {es : List (κ × Int)} (ho : objs[k]? = some (.map (mp kv vI es))) (hq : KeyOk kv ki.desc) (hy : evo n o y = .v (kv key)) (hz : (P.info? et).bind (·.zero) = some (.int .i64 0)) : Val P (.lookup t x y false) n o objs (.v (.int .i64 ((mlk es key).getD 0))) :=
  lk_op ht hd hk hx ho hq hy hz (fun b hb => by rw [hb]; rfl) (fun h => by rw [h]; rfl)
end
end

/-! ### Objects change places -/
def swp (a b i : Nat) : Nat := if i = a then b else if i = b then a else i
def Tk.ren (f : Nat → Nat) : Tk → Tk
  | .own o => .own (f o)
  | t => t
mutual
def AV.ren (f : Nat → Nat) : AV → AV
  | .v x => .v x
  | .sl rows t => .sl rows (t.ren f)
  | .agg cs => .agg (AV.renL f cs)
  | .tup cs => .tup (AV.renL f cs)
  | .ptr o off => .ptr (f o) off
  | .ep rows i off t => .ep rows i off (t.ren f)
  | .bsl o off len => .bsl (f o) off len
  | .map o => .map (f o)
  | .fn g a b => .fn g (AV.renL f a) (AV.renL f b)
  | .cnd g x => .cnd g (x.ren f)
  | .any => .any
def AV.renL (f : Nat → Nat) : List AV → List AV
  | [] => []
  | x :: xs => x.ren f :: AV.renL f xs
end
def Obj.ren (f : Nat → Nat) : Obj → Obj
  | .box cs => .box (AV.renL f cs)
  | .map es => .map (es.map fun e => (e.1, e.2.ren f))
  | .mapB bs c es => .mapB bs c (es.map fun e => (e.1, e.2.ren f))
  | .iter m since seen => .iter (f m) since seen
  | .bld e buf => .bld e (buf.ren f)
  | x => x
theorem renL_length (f : Nat → Nat) : ∀ xs : List AV, (AV.renL f xs).length = xs.length
  | [] => rfl
  | _ :: xs => by simp [AV.renL, renL_length f xs]
theorem renL_get {f : Nat → Nat} (xs : List AV) : ∀ {i : Nat} {y : AV}, (AV.renL f xs)[i]? = some y → ∃ x, xs[i]? = some x ∧ y = x.ren f := by
  induction xs with
  | nil => intro i y h; simp [AV.renL] at h
  | cons x xs ih =>
    intro i y h
    cases i with
    | zero => simp [AV.renL] at h; exact ⟨x, rfl, h.symm⟩
    | succ i => simp only [AV.renL, List.getElem?_cons_succ] at h; exact ih h
section
variable {G G' : Ghost} {f : Nat → Nat} (hb : ∀ (o : Nat) g, G.bl[o]? = some g → G'.bl[f o]? = some g) (hi : G'.imm = G.imm)
include hb hi
theorem im_ren {t : Tk} {b off : Nat} (h : G.im t b off) : G'.im (t.ren f) b off := by
  cases t with
  | none => show G'.imm b off; rw [hi]; exact h
  | exact => show G'.imm b off; rw [hi]; exact h
  | own o =>
    rcases h with h | ⟨l, c, s, h1, h2⟩
    · exact .inl (by rw [hi]; exact h)
    · exact .inr ⟨l, c, s, hb o _ h1, h2⟩
theorem Conc.ren {w : World} {x : AV} {v : Value} (h : Conc G w x v) : Conc G' w (x.ren f) v := by
  induction h with
  | v x hx => exact .v x hx
  | any x => exact .any x
  | cnd g y x _ h' ih => exact .cnd g _ x ih h'
  | sl rows t x hd ht =>
    refine .sl rows _ x (hd.mono (fun _ _ _ => rfl) (fun b off h => im_ren hb hi h) (fun _ _ _ => rfl) (fun _ _ h => by rw [hi]; exact h)) ?_
    cases t with
    | none => trivial
    | exact => exact ht
    | own o =>
      rcases ht with ⟨l, h1, h2⟩ | ⟨b, l, c, sz, ex, h1, h2⟩
      · exact .inl ⟨l, hb o _ h1, h2⟩
      · exact .inr ⟨b, l, c, sz, ex, hb o _ h1, h2⟩
  | agg cs vs hl h1 _ ih =>
    refine .agg _ vs (by rw [renL_length]; exact hl) h1 (fun i c v hc hv => ?_)
    obtain ⟨x, hx, rfl⟩ := renL_get _ hc
    exact ih i x v hx hv
  | tup cs vs hl _ ih =>
    refine .tup _ vs (by rw [renL_length]; exact hl) (fun i c v hc hv => ?_)
    obtain ⟨x, hx, rfl⟩ := renL_get _ hc
    exact ih i x v hx hv
  | ptr o off b h => exact .ptr _ off b (hb o _ h)
  | ep rows i off t b st sz h c ht =>
    refine .ep rows i off _ b st sz (h.mono (fun _ _ _ => rfl) (fun b off h => im_ren hb hi h) (fun _ _ _ => rfl) (fun _ _ h => by rw [hi]; exact h)) c ?_
    cases t with
    | none => trivial
    | exact => exact ht
    | own o =>
      rcases ht with ⟨l, h1, h2⟩ | ⟨b, l, c, sz, ex, h1, h2⟩
      · exact .inl ⟨l, hb o _ h1, h2⟩
      · exact .inr ⟨b, l, c, sz, ex, hb o _ h1, h2⟩
  | bsl o off len cap b h h1 h2 => exact .bsl _ off len cap b (hb o _ h) h1 h2
  | bsl0 o off cap a h2 => exact .bsl0 _ off cap a h2
  | map o b h => exact .map _ b (hb o _ h)
  | fn f first cap vf vc h1 h2 _ _ ih1 ih2 =>
    refine .fn f _ _ vf vc (by rw [renL_length]; exact h1) (by rw [renL_length]; exact h2) (fun i c v hc hv => ?_) (fun i c v hc hv => ?_)
    · obtain ⟨x, hx, rfl⟩ := renL_get _ hc
      exact ih1 i x v hx hv
    · obtain ⟨x, hx, rfl⟩ := renL_get _ hc
      exact ih2 i x v hx hv
theorem ObjOk.ren {w : World} {g : GB} {x : Obj} (h : ObjOk G w g x) : ObjOk G' w g (x.ren f) := by
  cases x with
  | box cs =>
    rcases h with ⟨rfl, l, hl⟩ | ⟨b, c, e, e1, e2, e3, e4, e5⟩
    · exact .inl ⟨rfl, l, hl⟩
    · refine .inr ⟨b, c, e, e1, e2, by rw [renL_length]; exact e3, fun j z v hz hv => ?_, fun off => by rw [hi]; exact e5 off⟩
      obtain ⟨y, hy, rfl⟩ := renL_get _ hz
      obtain ⟨q1, q2⟩ := e4 j y v hy hv
      exact ⟨q1, q2.ren hb hi⟩
  | tok l sz e ex =>
    rcases h with h | ⟨b, cap, cur, e1, e2, e3, e4, e5, e6, e7⟩
    · exact .inl h
    · exact .inr ⟨b, cap, cur, e1, e2, e3, e4, e5, fun hx off => by rw [hi]; exact e6 hx off, fun hx off => by rw [hi]; exact e7 hx off⟩
  | lin v sz e rows =>
    rcases h with h | ⟨b, cap, cur, e1, e2, e3, e4, e5, e6, e7, e8⟩
    · exact .inl h
    · exact .inr ⟨b, cap, cur, e1, e2, e3, e4, e5, e6, fun off => by rw [hi]; exact e7 off, e8.mono (fun _ _ _ => rfl) (fun _ _ h => h) (fun _ _ _ => rfl) (fun _ _ h => by rw [hi]; exact h)⟩
  | map es =>
    obtain ⟨b, ents, clock, e1, e2, e3, e4, e5, e6⟩ := h
    refine ⟨b, ents, clock, e1, e2, by simpa using e3, fun i k y e hk he => ?_, e5, fun off => by rw [hi]; exact e6 off⟩
    rw [List.getElem?_map] at hk
    cases hes : es[i]? with
    | none => rw [hes] at hk; cases hk
    | some p =>
      rw [hes] at hk
      simp only [Option.map_some, Option.some.injEq, Prod.mk.injEq] at hk
      obtain ⟨rfl, rfl⟩ := hk
      obtain ⟨q1, q2, q3⟩ := e4 i p.1 p.2 e hes he
      exact ⟨q1, q2.ren hb hi, q3⟩
  | mapB bs clock es =>
    obtain ⟨b, ents, e1, e2, e3, e4, e5, e7, e6⟩ := h
    refine ⟨b, ents, e1, e2, by simpa using e3, fun i k y e hk he => ?_, e5, e7, fun off => by rw [hi]; exact e6 off⟩
    rw [List.getElem?_map] at hk
    cases hes : es[i]? with
    | none => rw [hes] at hk; cases hk
    | some p =>
      rw [hes] at hk
      simp only [Option.map_some, Option.some.injEq, Prod.mk.injEq] at hk
      obtain ⟨rfl, rfl⟩ := hk
      obtain ⟨q1, q2, q3⟩ := e4 i p.1 p.2 e hes he
      exact ⟨q1, q2.ren hb hi, q3⟩
  | iter m since seen =>
    obtain ⟨b, mb, e1, e2, e3, e4⟩ := h
    exact ⟨b, mb, e1, hb m _ e2, e3, fun off => by rw [hi]; exact e4 off⟩
  | bld e buf =>
    obtain ⟨b, c0, c1, e1, e2, e3, e4, e5, e6⟩ := h
    exact ⟨b, c0, c1, e1, e2, e3, e4, e5.ren hb hi, fun off => by rw [hi]; exact e6 off⟩
  | dead => exact h
end

section
variable {P : Program} {n0 n k a b : Nat} {I : Nat → AS → Prop} {Q : AX → AS → Prop} {E : AV → List Obj → Prop} {β : Type} {m : Option β} {Φ : β → Prop} {o o' : List (Nat × AV)} {objs objs' : List Obj} {x y : Obj} {next : AS → Prop} {c : Code}
variable (ha : objs[a]? = some x) (hb : objs[b]? = some y) (hn : n0 ≤ a ∧ n0 ≤ b) (ho : o.map (fun e => (e.1, e.2.ren (swp a b))) = o') (hobj : ((objs.set a y).set b x).map (Obj.ren (swp a b)) = objs')
include ha hb hn ho hobj
end
end Go.Proofs.YtcpjmkbcefmldaaGreatDoor.AM

/- Sorting, slices held against nil, for the models. -/
namespace Go.Proofs.YtcpjmkbcefmldaaGreatDoor.AM
open Go

/-! ### nil -/
open Classical in
noncomputable def nilM {α β : Type} (l : List α) (m1 m2 : Option β) : Option β := if (l = [] → m1 = m2) then m2 else none
section
variable {P : Program} {β α : Type} {m1 m2 : Option β} {Φ : β → Prop} {ops rest : List Oper} {K : AS → Prop} {E : AV → List Obj → Prop} {n d : Nat} {o : List (Nat × AV)} {objs : List Obj} {ty t t' : TypeId} {pos : String} {af : Array Edge} {x y : Operand} {c : α → List D} {l : List α} {tg : Tk} {i : TI}
theorem nil_of {z : β} (h : nilM l m1 m2 = some z) : m2 = some z ∧ (l = [] → m1 = some z) := by
  unfold nilM at h
  split at h
  · rename_i hh; exact ⟨h, fun e => by rw [hh e]; exact h⟩
  · cases h
theorem M_nil (ht : ti P t = some i) (hd : isSlD i.desc = true) (hx : evo n o x = .sl (l.map c) tg) (hy : evo n o y = .v (.slice none 0 0))
    (h1 : H m1 Φ (rg .p P ops rest (st n (oc d (.v (.bool true)) o) objs) K E)) (h2 : H m2 Φ (rg .p P ops rest (st n (oc d (.v (.bool false)) o) objs) K E)) :
    H (nilM l m1 m2) Φ (rg .p P ops (⟨some d, .binOp .eql t x y t', ty, pos, af, none⟩ :: rest) (st n o objs) K E) := by
  intro z hz hp
  obtain ⟨k2, k1⟩ := nil_of hz
  unfold rg; dsimp only; unfold aops guardAV aop; dsimp only
  rw [eval_st, eval_st, hx, hy]
  unfold binAV
  dsimp only
  rw [ht]
  exact ⟨hd, fun e => h1 z (k1 (List.map_eq_nil_iff.1 e)) hp, h2 z k2 hp⟩
end

section
variable {P : Program} {β : Type} {r v : β} {n : Nat} {o : List (Nat × AV)} {objs : List Obj} {rs : List ResultVar} {X : β → AV} {O : β → List Obj}
theorem R_ret1t {sz e : Nat} (hr : resS n o rs = some [.v (.slice none 0 0)]) (hx : X v = .sl [] (.own 0)) (ho : O v = [.tok 0 sz e true]) :
    H (retM v) (fun y => y = r) (bodyQ P 0 rs (RetIs X O r) .ret (st n o objs)) := by
  refine H_ret ?_
  rintro rfl
  refine ⟨.v (.slice none 0 0), by unfold resAV; rw [resS_ok hr]; rfl, X v, O v, ?_, rfl, rfl⟩
  rw [hx, ho]
  exact (Weak.gen (tmps := [.v (.slice none 0 0)]) (tmps' := [.v (.slice none 0 0)]) (objs' := []) ⟨AV.le_refl _, trivial⟩ (leOb_nil _) (Nat.zero_le _) rfl rfl).trans (Weak.tok (s := ⟨[.v (.slice none 0 0)], []⟩) 0 sz e true rfl)
end

/-! ### sorted -/
structure SortOk {α : Type} (f : α → α → Option Int) (cf : α → α → Int) (l : List α) : Prop where
  run : ∀ x ∈ l, ∀ y ∈ l, f x y = some (cf x y)
  irr : ∀ x ∈ l, ¬ cf x x < 0
  tr : ∀ x ∈ l, ∀ y ∈ l, ∀ z ∈ l, cf x y < 0 → cf y z < 0 → cf x z < 0
  ntr : ∀ x ∈ l, ∀ y ∈ l, ∀ z ∈ l, ¬ cf x y < 0 → ¬ cf y z < 0 → ¬ cf x z < 0
  big : l.length < 4611686018427387904
def Sorts {α β : Type} (f : α → α → Option Int) (l : List α) (m : List α → Option β) (y : β) : Prop :=
  ∃ cf, SortOk f cf l ∧ ∀ l' : List α, l'.Perm l → l'.Pairwise (fun p q => ¬ cf q p < 0) → m l' = some y
open Classical in
noncomputable def sortM {α β : Type} (f : α → α → Option Int) (l : List α) (m : List α → Option β) : Option β :=
  if h : ∃ y, Sorts f l m y then some (Classical.choose h) else none
theorem sortM_spec {α β : Type} {f : α → α → Option Int} {l : List α} {m : List α → Option β} {y : β} (h : sortM f l m = some y) : Sorts f l m y := by
  unfold sortM at h
  split at h
  · rename_i hh; cases h; exact Classical.choose_spec hh
  · cases h
theorem sorts_nonempty {α : Type} {f : α → α → Option Int} {cf : α → α → Int} {l : List α} (h : SortOk f cf l) : ∃ l' : List α, l'.Perm l ∧ l'.Pairwise (fun p q => ¬ cf q p < 0) := by
  obtain ⟨_, hirr, htr, hntr, _⟩ := h
  have key : ∀ l0 : List α, (∀ x ∈ l0, x ∈ l) → ∃ l' : List α, l'.Perm l0 ∧ l'.Pairwise (fun p q => ¬ cf q p < 0) := by
    intro l0
    induction l0 with
    | nil => intro _; exact ⟨[], List.Perm.refl _, List.Pairwise.nil⟩
    | cons a l0 ih =>
      intro hm
      obtain ⟨l1, hp, hs⟩ := ih fun x hx => hm x (List.mem_cons_of_mem _ hx)
      have ha := hm a List.mem_cons_self
      have hl1 : ∀ x ∈ l1, x ∈ l := fun x hx => hm x (List.mem_cons_of_mem _ (hp.mem_iff.1 hx))
      refine ⟨l1.filter (fun x => decide (cf x a < 0)) ++ a :: l1.filter (fun x => !decide (cf x a < 0)), ?_, ?_⟩
      · refine List.perm_middle.trans (List.Perm.cons a ?_)
        exact (List.filter_append_perm (fun x => decide (cf x a < 0)) l1).trans hp
      · rw [List.pairwise_append]
        refine ⟨hs.filter _, ?_, ?_⟩
        · rw [List.pairwise_cons]
          refine ⟨fun x hx => ?_, hs.filter _⟩
          rw [List.mem_filter] at hx
          simpa using hx.2
        · intro x hx y hy
          rw [List.mem_filter] at hx
          have hxa : cf x a < 0 := by simpa using hx.2
          rcases List.mem_cons.1 hy with rfl | hy
          · intro h; exact hirr x (hl1 x hx.1) (htr x (hl1 x hx.1) y ha x (hl1 x hx.1) hxa h)
          · rw [List.mem_filter] at hy
            have hya : ¬ cf y a < 0 := by simpa using hy.2
            intro h; exact hya (htr y (hl1 y hy.1) x (hl1 x hx.1) a ha h hxa)
  exact key l fun x h => h
theorem sortM_eq {α β : Type} {f : α → α → Option Int} {l : List α} {m : List α → Option β} {y : β} (cf : α → α → Int) (h : SortOk f cf l) (hm : ∀ l' : List α, l'.Perm l → l'.Pairwise (fun p q => ¬ cf q p < 0) → m l' = some y) : sortM f l m = some y := by
  have hex : ∃ y, Sorts f l m y := ⟨y, cf, h, hm⟩
  unfold sortM
  rw [dif_pos hex]
  obtain ⟨cf', h', hm'⟩ := Classical.choose_spec hex
  obtain ⟨l', hp, hs⟩ := sorts_nonempty h'
  have e1 := hm' l' hp hs
  have hs' : l'.Pairwise (fun p q => ¬ cf q p < 0) := by
    refine hs.imp_of_mem ?_
    intro a b ha hb hab
    have ra := h.run b (hp.mem_iff.1 hb) a (hp.mem_iff.1 ha)
    rw [h'.run b (hp.mem_iff.1 hb) a (hp.mem_iff.1 ha)] at ra
    rw [← Option.some.inj ra]; exact hab
  rw [hm l' hp hs'] at e1
  exact e1.symm

theorem rows_inj {α : Type} {c : α → List D} (hc : ∀ x y, c x = c y → x = y) : ∀ {l l' : List α}, l.map c = l'.map c → l = l'
  | [], [], _ => rfl
  | [], _ :: _, h => by simp at h
  | _ :: _, [], h => by simp at h
  | a :: l, b :: l', h => by
    simp only [List.map_cons, List.cons.injEq] at h
    rw [hc a b h.1, rows_inj hc h.2]

section
variable {P : Program} {β α : Type} {m : List α → Option β} {Φ : β → Prop} {ops rest : List Oper} {K : AS → Prop} {E : AV → List Obj → Prop} {n d F g k sz len : Nat} {o : List (Nat × AV)} {objs : List Obj} {ty : TypeId} {pos : String} {af : Array Edge} {cal x y : Operand} {at' : Array TypeId} {c : α → List D} {l : List α} {f : α → α → Option Int}
theorem M_sort (hc : evo n o cal = .fn F [] []) (hx : evo n o x = .bsl k 0 len) (hy : evo n o y = .fn g [] []) (ho : objs[k]? = some (.box (rowCells (l.map c)))) (hln : len = l.length) (hen : enters P F = true)
    {one : Bool} (hone : one = true → sz = 1) (hs : SortCon P F g sz one) (hs0 : SortCon0 P F g) (h0 : 0 < sz) (hz : ∀ r, (c r).length = sz) (hinj : ∀ p q, c p = c q → p = q) (hf : ∀ p q r, f p q = some r → Fun P g [packA one (c p), packA one (c q)] (vI r) [])
    (h : ∀ l' : List α, l.length = l'.length → H (m l') Φ (rg .p P ops rest (st n (oc d (.tup []) o) (objs.set k (.box (rowCells (l'.map c))))) K E)) :
    H (sortM f l m) Φ (rg .p P ops (⟨some d, .call ⟨.value cal, #[x, y], at'⟩, ty, pos, af, none⟩ :: rest) (st n o objs) K E) := by
  intro z hz' hp
  obtain ⟨cf, hok, hm⟩ := sortM_spec hz'
  unfold rg; dsimp only; unfold aops guardAV aop; dsimp only [List.map, Array.toList]
  rw [eval_st, eval_st, eval_st, hc, hx, hy]
  dsimp only
  have hrows : ∀ r ∈ l.map c, r.length = sz := by intro r hr; obtain ⟨p, _, rfl⟩ := List.mem_map.1 hr; exact hz p
  classical
  let dec : List D → Option α := fun r => if h : ∃ p, c p = r then some (Classical.choose h) else none
  have hdec : ∀ p, dec (c p) = some p := by
    intro p
    have he : ∃ q, c q = c p := ⟨p, rfl⟩
    show (if h : ∃ q, c q = c p then some (Classical.choose h) else none) = some p
    rw [dif_pos he, hinj _ _ (Classical.choose_spec he)]
  let cf' : List D → List D → Int := fun r s => match dec r, dec s with | some p, some q => cf p q | _, _ => 0
  have hcf : ∀ p q, cf' (c p) (c q) = cf p q := by intro p q; show (match dec (c p), dec (c q) with | some p, some q => cf p q | _, _ => 0) = _; rw [hdec, hdec]
  have hcall := sort_acall (P := P) (f := F) (g := g) (k := sz) hone hs hs0 h0 ho hrows cf'
    (by intro r hr; obtain ⟨p, hp', rfl⟩ := List.mem_map.1 hr; rw [hcf]; exact hok.irr p hp')
    (by intro r hr s hs t ht; obtain ⟨p, hp', rfl⟩ := List.mem_map.1 hr; obtain ⟨q, hq', rfl⟩ := List.mem_map.1 hs; obtain ⟨u, hu', rfl⟩ := List.mem_map.1 ht; rw [hcf, hcf, hcf]; exact hok.tr p hp' q hq' u hu')
    (by intro r hr s hs t ht; obtain ⟨p, hp', rfl⟩ := List.mem_map.1 hr; obtain ⟨q, hq', rfl⟩ := List.mem_map.1 hs; obtain ⟨u, hu', rfl⟩ := List.mem_map.1 ht; rw [hcf, hcf, hcf]; exact hok.ntr p hp' q hq' u hu')
    (by intro r hr s hs; obtain ⟨p, hp', rfl⟩ := List.mem_map.1 hr; obtain ⟨q, hq', rfl⟩ := List.mem_map.1 hs; exact ⟨[], by rw [hcf]; exact hf p q _ (hok.run p hp' q hq')⟩)
    (by rw [List.length_map]; exact hok.big)
  refine ⟨hen, ?_⟩
  have e : ([] ++ [AV.bsl k 0 len, AV.fn g [] []] ++ [] : List AV) = [.bsl k 0 (l.map c).length, .fn g [] []] := by rw [List.length_map, hln]; rfl
  rw [e]
  refine ACall.mono hcall ?_
  rintro ae o' ⟨rfl, rows', hpm, hsr, rfl⟩
  show rg .p P ops rest _ K E
  have hrw : ∃ l' : List α, rows' = l'.map c := by
    have : ∀ r ∈ rows', ∃ p, c p = r := by intro r hr; obtain ⟨p, _, rfl⟩ := List.mem_map.1 (hpm.mem_iff.1 hr); exact ⟨p, rfl⟩
    clear hpm hsr
    induction rows' with
    | nil => exact ⟨[], rfl⟩
    | cons r rs ih =>
      obtain ⟨l1, h1⟩ := ih fun r hr => this r (List.mem_cons_of_mem _ hr)
      obtain ⟨p, hp'⟩ := this r List.mem_cons_self
      exact ⟨p :: l1, by simp [h1, hp']⟩
  obtain ⟨l', rfl⟩ := hrw
  have hpl : l'.Perm l := by
    have h1 := hpm.map dec
    rw [List.map_map, List.map_map] at h1
    have e1 : ∀ q : List α, q.map (dec ∘ c) = q.map some := fun q => List.map_congr_left fun p _ => hdec p
    rw [e1, e1] at h1
    have h2 := h1.filterMap id
    simpa using h2
  refine h l' hpl.length_eq.symm z (hm l' hpl ?_) hp
  rw [List.pairwise_map] at hsr
  exact hsr.imp fun {a b} hab => by rw [hcf] at hab; exact hab
end

/-! ### rows that are written in place -/
def forget (k d : Nat) (o : List (Nat × AV)) : List (Nat × AV) := o.map fun e => (e.1, if e.1 = d then e.2 else bif e.2.idsLt k then e.2 else .any)
theorem og_forget (k d : Nat) : ∀ (o : List (Nat × AV)) (t : Nat), og (forget k d o) t = if t = d then og o t else bif (og o t).idsLt k then og o t else .any
  | [], t => by simp [forget, og, AV.idsLt]
  | (e, x) :: r, t => by
    have ih := og_forget k d r t
    simp only [forget, List.map_cons, og] at ih ⊢
    by_cases h : e = t
    · subst h; simp only [if_true]
    · simp only [if_neg h]; exact ih
theorem W_leg {n0 n : Nat} {o o' : List (Nat × AV)} {objs : List Obj} (h : ∀ t, (og o t).le (og o' t)) : Weak n0 (st n o objs) (st n o' objs) :=
  Weak.le (s := st n o objs) (leL_of_get (by rw [ov_length, ov_length]) fun i x y hx hy => by
    have hi : i < n := by have := (List.getElem?_eq_some_iff.1 hx).1; rwa [ov_length] at this
    rw [ov_get n _ i hi] at hx hy
    cases hx; cases hy
    exact h i)
theorem W_forget {n0 n k d : Nat} {o : List (Nat × AV)} {objs : List Obj} : Weak n0 (st n o objs) (st n (forget k d o) objs) := by
  refine W_leg fun t => ?_
  rw [og_forget]
  split
  · exact AV.le_refl _
  · cases (og o t).idsLt k
    · exact AV.le_any _
    · exact AV.le_refl _
theorem ids_forget {k d : Nat} (n : Nat) (o : List (Nat × AV)) : AV.idsLtL k ((ov n (forget k d o)).set d .any) = true := by
  refine idsLtL_of fun i x hx => ?_
  rw [List.getElem?_set] at hx
  by_cases hd : d = i
  · subst hd
    simp only [if_true] at hx
    split at hx
    · cases hx; rfl
    · cases hx
  · rw [if_neg hd] at hx
    have hi : i < n := by have := (List.getElem?_eq_some_iff.1 hx).1; rwa [ov_length] at this
    rw [ov_get n _ i hi, og_forget, if_neg (fun h => hd h.symm)] at hx
    cases hx
    cases hq : (og o i).idsLt k
    · rfl
    · exact hq

theorem lst0 (x : Obj) : [x] = [] ++ [x] := rfl
theorem lst1 (a x : Obj) : [a, x] = [a] ++ [x] := rfl
theorem lst2 (a b x : Obj) : [a, b, x] = [a, b] ++ [x] := rfl
theorem lst3 (a b c x : Obj) : [a, b, c, x] = [a, b, c] ++ [x] := rfl
theorem lst4 (a b c d x : Obj) : [a, b, c, d, x] = [a, b, c, d] ++ [x] := rfl
theorem lst5 (a b c d e x : Obj) : [a, b, c, d, e, x] = [a, b, c, d, e] ++ [x] := rfl
def unboxM {β : Type} (_d : Nat) (m : Option β) : Option β := m
def pubbM {β : Type} (_d : Nat) (m : Option β) : Option β := m
section
variable {P : Program} {n0 n d k m' sz e : Nat} {Q : AX → AS → Prop} {β α : Type} {m : Option β} {Φ : β → Prop} {o : List (Nat × AV)} {objs pre : List Obj} {next : AS → Prop} {c : α → List D} {l : List α}
theorem R_unbox (hd : d < n) (hk : pre.length = k) (ho : objs = pre ++ [.tok m' sz e true]) (h : og o d = .sl (l.map c) (.own k)) (hm : m' = l.length) (hn : n0 ≤ pre.length) (h2 : belowObjs pre.length pre = true)
    (hr : H m Φ (seqQ n0 next Q .normal (st n (oc d (.bsl k 0 l.length) (forget k d o)) (pre ++ [.box (rowCells (l.map c))])))) : H (unboxM d m) Φ (seqQ n0 next Q .normal (st n o objs)) := by
  intro y hy hp
  subst hk; subst ho; subst hm
  refine WeakS.pre (W_forget (k := pre.length) (d := d)) (WeakS.pre ?_ (hr y hy hp))
  have hg : og (forget pre.length d o) d = .sl (l.map c) (.own pre.length) := by rw [og_forget, if_pos rfl]; exact h
  have := Weak.unbox (n0 := n0) (tmps := ov n (forget pre.length d o)) (objs := pre) d (rows := l.map c) (n := l.length) (sz := sz) (e := e) (by rw [ov_get n _ d hd, hg]) (List.length_map ..) hn (ids_forget n o) h2
  exact this
theorem R_pubb {m' : Nat} (hd : d < n) (hk : pre.length = k) (ho : objs = pre ++ [.box (rowCells (l.map c))]) (h : og o d = .bsl k 0 m') (hm : m' = l.length) (hz : ∀ r r', (c r).length = (c r').length) (hn : n0 ≤ pre.length) (h2 : belowObjs pre.length pre = true)
    (hr : H m Φ (seqQ n0 next Q .normal (st n (oc d (.sl (l.map c) .none) (forget k d o)) pre))) : H (pubbM d m) Φ (seqQ n0 next Q .normal (st n o objs)) := by
  intro y hy hp
  subst hk; subst ho; subst hm
  refine WeakS.pre (W_forget (k := pre.length) (d := d)) (WeakS.pre ?_ (hr y hy hp))
  have hg : og (forget pre.length d o) d = .bsl pre.length 0 l.length := by rw [og_forget, if_pos rfl]; exact h
  have hs : ∃ sz, ∀ r ∈ l.map c, r.length = sz := by
    cases l with
    | nil => exact ⟨0, by simp⟩
    | cons a l => exact ⟨(c a).length, fun r hr => by obtain ⟨p, _, rfl⟩ := List.mem_map.1 hr; exact hz p a⟩
  obtain ⟨sz, hs⟩ := hs
  have := Weak.pubbox (n0 := n0) (tmps := ov n (forget pre.length d o)) (objs := pre) d (rows := l.map c) (n := l.length) (sz := sz) (by rw [ov_get n _ d hd, hg]) (List.length_map ..) hs hn (ids_forget n o) h2
  exact this
end

/-! ### rows that are shared from now on, and still one's own -/
theorem W_sh {n0 n k : Nat} {o : List (Nat × AV)} {objs objs' : List Obj} (ho : pubTok objs k = objs') : Weak n0 (st n o objs) (st n o objs') := by
  subst ho
  intro G0 w0 G a w hn hf
  obtain ⟨G', h1, h2, h3⟩ := pubTok_step hf.sat.mem k
  exact ⟨G', hf.step.trans h1, h2, hf.sat.tmps.mono h1.ext, hf.sat.defers⟩
def shM {β : Type} (_k : Nat) (m : Option β) : Option β := m
section
variable {P : Program} {n0 n k i : Nat} {I : Nat → AS → Prop} {Q : AX → AS → Prop} {E : AV → List Obj → Prop} {β : Type} {m : Option β} {Φ : β → Prop} {o : List (Nat × AV)} {objs objs' : List Obj} {next : AS → Prop} {c : Code}
theorem R_shC (ho : pubTok objs i = objs') (hr : H m Φ (awp P n0 (.loop c) (st n o objs') Q E)) : H (shM i m) Φ (awp P n0 (.loop c) (st n o objs) Q E) := by
  intro y hy hp
  obtain ⟨I, ⟨q, s', h1, h2⟩, h3⟩ := hr y hy hp
  exact ⟨I, ⟨q, s', (W_sh ho).trans h1, h2⟩, h3⟩
end
end Go.Proofs.YtcpjmkbcefmldaaGreatDoor.AM

/- Answers that stand in cells. -/
namespace Go.Proofs.YtcpjmkbcefmldaaGreatDoor.AM
open Go

def resC (L : List (Nat × TI)) (n : Nat) (o : List (Nat × AV)) (objs : List Obj) : List ResultVar → Option (List AV)
  | [] => some []
  | .tmp t :: rs => (match resC L n o objs rs with | some xs => some ((if t < n then og o t else .any) :: xs) | none => none)
  | .cell a t :: rs =>
    match resC L n o objs rs, tiFind L t, (if a < n then og o a else .any) with
    | some xs, some i, .ptr k off =>
      (match objs[k]? with
      | some (.box cells) => if off + i.size ≤ cells.length then (if i.isAgg then some (.agg ((cells.drop off).take i.size) :: xs) else if i.size = 1 then some (cells.getD off .any :: xs) else none) else none
      | _ => none)
    | _, _, _ => none
theorem resC_ok {P : Program} {L : List (Nat × TI)} (hL : ∀ e ∈ L, ti P e.1 = some e.2) {n : Nat} {o : List (Nat × AV)} {objs : List Obj} : ∀ {rs : List ResultVar} {xs : List AV}, resC L n o objs rs = some xs → resL P (st n o objs) rs = some xs
  | [], xs, h => h
  | .tmp t :: rs, xs, h => by
    simp only [resC] at h
    cases hr : resC L n o objs rs with
    | none => rw [hr] at h; cases h
    | some ys =>
      rw [hr] at h
      simp only [resL, resO, resC_ok hL hr]
      rw [show ((st n o objs).tmps.getD t .any) = if t < n then og o t else .any from ov_getD n o t]
      exact h
  | .cell a t :: rs, xs, h => by
    simp only [resC] at h
    split at h
    · rename_i ys i k off hr ht hp
      simp only [resL, resO, resC_ok hL hr]
      rw [show ((st n o objs).tmps.getD a .any) = if a < n then og o a else .any from ov_getD n o a, hp]
      unfold loadO
      rw [tiFind_ok hL ht]
      split at h
      · rename_i cells hob
        simp only [hob]
        split at h
        · rename_i hle
          rw [if_pos hle]
          split at h
          · rename_i hagg
            rw [if_pos hagg]; exact h
          · rename_i hagg
            rw [if_neg hagg]
            split at h
            · rename_i h1
              rw [if_pos h1]; exact h
            · cases h
        · cases h
      · cases h
    · cases h

section
variable {P : Program} {β : Type} {r v : β} {n : Nat} {o : List (Nat × AV)} {objs : List Obj} {rs : List ResultVar} {X : β → AV} {O : β → List Obj}
theorem R_ret1sg {x0 : AV} (hr : resL P (st n o objs) rs = some [x0]) (hx : x0.strip.le (X v)) (h1 : (X v).idsLt 0 = true) (hO : O v = []) :
    H (retM v) (fun y => y = r) (bodyQ P 0 rs (RetIs X O r) .ret (st n o objs)) := by
  refine H_ret ?_
  rintro rfl
  refine ⟨x0, by unfold resAV; rw [hr]; rfl, X v, O v, ?_, rfl, rfl⟩
  rw [hO]
  intro G0 w0 G a w hn hf
  obtain ⟨G', k1, k2, k3⟩ := stripL_step [x0] G objs hf.sat.mem
  have hf' : From G0 w0 G' ⟨AV.stripL [x0], AV.pubL objs [x0]⟩ a w := ⟨hf.step.trans k1, k2, k3 _ hf.sat.tmps, hf.sat.defers⟩
  exact Weak.gen (n0 := 0) (tmps := AV.stripL [x0]) (tmps' := [X v]) (objs' := []) ⟨hx, trivial⟩ (leOb_nil _) (Nat.zero_le _) (by simp [AV.idsLtL, h1]) rfl G0 w0 G' a w hn hf'
theorem R_retnsg {x0 x1 : AV} {xs ys : List AV} (hr : resL P (st n o objs) rs = some (x0 :: x1 :: xs)) (hX : X v = .tup ys) (hx : AV.leL (AV.stripL (x0 :: x1 :: xs)) ys) (h1 : AV.idsLtL 0 ys = true) (hO : O v = []) :
    H (retM v) (fun y => y = r) (bodyQ P 0 rs (RetIs X O r) .ret (st n o objs)) := by
  refine H_ret ?_
  rintro rfl
  refine ⟨.tup (x0 :: x1 :: xs), by unfold resAV; rw [hr]; rfl, X v, O v, ?_, rfl, rfl⟩
  rw [hO, hX]
  intro G0 w0 G a w hn hf
  obtain ⟨G', k1, k2, k3⟩ := stripL_step (x0 :: x1 :: xs) G objs hf.sat.mem
  have hv := hf.sat.tmps
  have hlen : a.tmps.toList.length = 1 := hv.1
  match hal : a.tmps.toList, hlen with
  | [u], _ =>
    rw [hal] at hv
    have h0 := hv.2 0 _ u rfl rfl
    cases h0 with
    | tup _ vs hl hc =>
      obtain ⟨q1, q2⟩ := AV.leL_sound hx (k3 vs ⟨hl, hc⟩)
      have hf' : From G0 w0 G' ⟨[.tup ys], AV.pubL objs (x0 :: x1 :: xs)⟩ a w := by
        refine ⟨hf.step.trans k1, k2, ?_, hf.sat.defers⟩
        rw [hal]
        refine ⟨rfl, fun i x v hx hv => ?_⟩
        cases i with
        | zero => simp at hx hv; subst hx; subst hv; exact .tup _ vs q1 q2
        | succ i => simp at hx
      exact Weak.gen (n0 := 0) (tmps := [.tup ys]) (tmps' := [.tup ys]) (objs' := []) ⟨AV.le_refl _, trivial⟩ (leOb_nil _) (Nat.zero_le _) (by simp [AV.idsLtL, AV.idsLt, h1]) rfl G0 w0 G' a w hn hf'

end
end Go.Proofs.YtcpjmkbcefmldaaGreatDoor.AM

/- Rows of one's own that are written by index. -/
namespace Go.Proofs.YtcpjmkbcefmldaaGreatDoor.AM
open Go

theorem rows_get {rows : List (List D)} {sz i j : Nat} {r : List D} (h : ∀ (i : Nat) (r : List D), rows[i]? = some r → r.length = sz) (hr : rows[i]? = some r) (hj : j < sz) :
    (rowCells rows)[i * sz + j]? = (r[j]?).map .ofD := by
  have hl := h i r hr
  have hd : r[j]? = some r[j] := List.getElem?_eq_getElem (by omega)
  unfold rowCells
  rw [List.getElem?_map, flat_of_row h hr hd, hd]

theorem setFrom_get : ∀ (xs cs : List AV) (off q : Nat), off + xs.length ≤ cs.length → (setFrom cs off xs)[q]? = if off ≤ q ∧ q < off + xs.length then xs[q - off]? else cs[q]?
  | [], cs, off, q, _ => by
    simp only [setFrom, List.length_nil, Nat.add_zero]
    rw [if_neg (by omega)]
  | x :: xs, cs, off, q, h => by
    simp only [List.length_cons] at h
    simp only [setFrom, List.length_cons]
    rw [setFrom_get xs (cs.set off x) (off + 1) q (by rw [List.length_set]; omega)]
    by_cases h1 : off = q
    · subst h1
      rw [if_neg (by omega), if_pos (by omega), List.getElem?_set, if_pos rfl, if_pos (by omega)]
      simp
    · by_cases h2 : off + 1 ≤ q ∧ q < off + 1 + xs.length
      · rw [if_pos h2, if_pos (by omega), show q - off = (q - (off + 1)) + 1 from by omega]
        simp
      · rw [if_neg h2, if_neg (by omega), List.getElem?_set, if_neg h1]

theorem rows_ext {a b : List AV} {n sz : Nat} (ha : a.length = n * sz) (hb : b.length = n * sz) (h : ∀ i j, i < n → j < sz → a[i * sz + j]? = b[i * sz + j]?) : a = b := by
  refine List.ext_getElem? fun q => ?_
  rcases Nat.lt_or_ge q (n * sz) with hq | hq
  · have hs : 0 < sz := by
      rcases Nat.eq_zero_or_pos sz with h0 | h0
      · rw [h0] at hq; simp at hq
      · exact h0
    have e := Nat.div_add_mod q sz
    have h1 : q / sz < n := Nat.div_lt_of_lt_mul (by rw [Nat.mul_comm]; exact hq)
    have := h (q / sz) (q % sz) h1 (Nat.mod_lt _ hs)
    rw [Nat.mul_comm (q / sz) sz, e] at this
    exact this
  · rw [List.getElem?_eq_none (by omega), List.getElem?_eq_none (by omega)]

section
variable {α : Type} {c : α → List D} {l : List α} {sz : Nat}
theorem map_len (hz : ∀ r, (c r).length = sz) (i : Nat) (r : List D) (h : (l.map c)[i]? = some r) : r.length = sz := by
  rw [List.getElem?_map] at h
  cases hl : l[i]? with
  | none => rw [hl] at h; cases h
  | some x => rw [hl] at h; cases h; exact hz x
theorem rowBox_len (hz : ∀ r, (c r).length = sz) : (rowCells (l.map c)).length = l.length * sz := by
  rw [rowCells_len (map_len hz), List.length_map]

theorem zrep_rows {z : α} {zero : List Value} (hz : ∀ r, (c r).length = sz) (h : zero.map AV.v = (c z).map .ofD) (n : Nat) : zrep zero sz n = rowCells ((List.replicate n z).map c) := by
  have hl : zero.length = sz := by have := congrArg List.length h; simpa [hz] using this
  refine rows_ext (n := n) (sz := sz) (by simp [zrep]) (by rw [rowBox_len hz, List.length_replicate]) fun i j hi hj => ?_
  rw [rows_get (map_len hz) (r := c z) (by simp [hi]) hj]
  have hlt : i * sz + j < n * sz := by
    have := Nat.mul_le_mul_right sz (show i + 1 ≤ n from hi)
    rw [Nat.add_mul] at this; omega
  have hm : (i * sz + j) % sz = j := by rw [Nat.mul_comm, Nat.mul_add_mod, Nat.mod_eq_of_lt hj]
  unfold zrep
  rw [List.getElem?_map, List.getElem?_range hlt, Option.map_some, hm]
  have := congrArg (fun q : List AV => q[j]?) h
  simp only [List.getElem?_map] at this
  rw [← this, List.getElem?_eq_getElem (by omega), Option.map_some, List.getD_eq_getElem?_getD, List.getElem?_eq_getElem (by omega), Option.getD_some]

theorem setFrom_rows {i : Nat} {x : α} (hz : ∀ r, (c r).length = sz) (hi : i < l.length) : setFrom (rowCells (l.map c)) (i * sz) ((c x).map .ofD) = rowCells ((l.set i x).map c) := by
  have hle : i * sz + sz ≤ l.length * sz := by
    have := Nat.mul_le_mul_right sz (show i + 1 ≤ l.length from hi)
    rw [Nat.add_mul] at this; omega
  refine rows_ext (n := l.length) (sz := sz) (by rw [setFrom_length, rowBox_len hz]) (by rw [rowBox_len hz, List.length_set]) fun k j hk hj => ?_
  rw [setFrom_get _ _ _ _ (by rw [rowBox_len hz, List.length_map, hz]; exact hle), List.length_map, hz]
  have hset : ((l.set i x).map c)[k]? = some (c (if i = k then x else l[k])) := by
    rw [List.getElem?_map, List.getElem?_set]
    by_cases h : i = k
    · rw [if_pos h, if_pos h, if_pos hi]; rfl
    · rw [if_neg h, if_neg h, List.getElem?_eq_getElem hk]; rfl
  rw [rows_get (map_len hz) hset hj]
  by_cases h : i = k
  · subst h
    rw [if_pos ⟨by omega, by omega⟩, if_pos rfl, Nat.add_sub_cancel_left, List.getElem?_map]
  · have : ¬ (i * sz ≤ k * sz + j ∧ k * sz + j < i * sz + sz) := by
      rintro ⟨h1, h2⟩
      rcases Nat.lt_or_gt_of_ne h with h3 | h3
      · have := Nat.mul_le_mul_right sz (show i + 1 ≤ k from h3)
        rw [Nat.add_mul] at this; omega
      · have := Nat.mul_le_mul_right sz (show k + 1 ≤ i from h3)
        rw [Nat.add_mul] at this; omega
    rw [if_neg this, if_neg h, rows_get (map_len hz) (r := c l[k]) (by simp [hk]) hj]
end

section
variable {P : Program} {n : Nat} {o : List (Nat × AV)} {objs : List Obj} {x y : Operand} {t : TypeId} {α : Type} {c : α → List D} {l : List α}
theorem E_mkr {i j : TI} {e : TypeId} {k : Nat} {m : Int} {z : α} (ht : ti P t = some i) (hd : i.desc = .slice e) (hj : ti P e = some j) (h0 : 0 < j.size) (hz : ∀ r, (c r).length = j.size) (hzz : j.zero.map AV.v = (c z).map .ofD) (hx : evo n o x = .v (.int .i64 m)) (hy : evo n o y = .v (.int .i64 m)) (hm : 0 ≤ m ∧ m ≤ 9223372036854775807 ∧ m.toNat * j.bytes ≤ 281474976710656) (hk : objs.length = k) :
    Eff P (.makeSlice t x y) n o objs (.bsl k 0 m.toNat) (objs ++ [.box (rowCells ((List.replicate m.toNat z).map c))]) := by
  rw [← zrep_rows hz hzz]
  exact E_mks ht hd hj h0 hx hy hm hk
theorem E_strow {i : TI} {k q off : Nat} {v : α} (ht : ti P t = some i) (hz : ∀ r, (c r).length = i.size) (hx : evo n o x = .ptr k off) (hoff : off = 0 + q * i.size) (hq : q < l.length) (hy : cellsAV (evo n o y) = some ((c v).map .ofD)) (ho : objs[k]? = some (.box (rowCells (l.map c)))) :
    Eff P (.store t x y) n o objs .any (objs.set k (.box (rowCells ((l.set q v).map c)))) := by
  subst hoff
  have hle : q * i.size + i.size ≤ l.length * i.size := by
    have := Nat.mul_le_mul_right i.size (show q + 1 ≤ l.length from hq)
    rw [Nat.add_mul] at this; omega
  refine E_store ht hx hy ho (by rw [List.length_map, hz]) (Nat.ble_eq_true_of_le ?_) ?_
  · rw [List.length_map, hz, rowBox_len hz]; omega
  · rw [Nat.zero_add]; exact setFrom_rows hz hq
end
end Go.Proofs.YtcpjmkbcefmldaaGreatDoor.AM

/- Maps: entries taken away, and how many there are. -/
namespace Go.Proofs.YtcpjmkbcefmldaaGreatDoor.AM
open Go

section
variable {P : Program} {n : Nat} {o : List (Nat × AV)} {objs objs' : List Obj} {x y : Operand} {t t2 : TypeId}
variable {κ α : Type} [DecidableEq κ] {kv : κ → Value} {av : α → AV} {es : List (κ × α)} {i ki : TI} {kt et : TypeId} {k : Nat} {key : κ} {d : TypeDesc}
theorem mdel_mp (h : KeyOk kv d) (k : κ) : ∀ es : List (κ × α), mdel (mp kv av es) (kv k) = mp kv av (mdl es k)
  | [] => rfl
  | (a, y) :: es => by
    have ih := mdel_mp h k es
    simp only [mp, List.map_cons, mdel, mdl, h.eq] at ih ⊢
    by_cases hk : k = a
    · simp [hk]
    · simp [hk, ih]
theorem V_lenM (ht : ti P t = some i) (hd : i.desc = .map kt et) (hx : evo n o x = .map k) (ho : objs[k]? = some (.map (mp kv av es))) : Val P (.call ⟨.builtin .len, #[x], #[t]⟩) n o objs (.v (.int .i64 (es.length : Int))) := by
  refine ⟨?_⟩; intro p N E hp hN; unfold aop; rw [hp]; dsimp only [List.map, Array.toList]
  rw [eval_st, hx]; unfold builtinAV; dsimp only; refine Or.inr ?_; unfold mapLenAV; rw [ht]; dsimp only; rw [hd, ho]; dsimp only
  rw [show (mp kv av es).length = es.length from List.length_map ..]; exact hN
theorem E_mdl (ht : ti P t = some i) (hd : i.desc = .map kt et) (hk : ti P kt = some ki) (hx : evo n o x = .map k) (ho : objs[k]? = some (.map (mp kv av es))) (hq : KeyOk kv ki.desc) (hy : evo n o y = .v (kv key)) (ho' : objs.set k (.map (mp kv av (mdl es key))) = objs') :
    Eff P (.call ⟨.builtin .delete, #[x, y], #[t, t2]⟩) n o objs .any objs' := by
  refine ⟨?_⟩; intro p N E hp hN; unfold aop; rw [hp]; dsimp only [List.map, Array.toList]
  rw [eval_st, eval_st, hx, hy]; unfold builtinAV; dsimp only; unfold mapDelAV; rw [ht]; dsimp only; rw [hd]; dsimp only; rw [hk]; dsimp only; rw [ho]; dsimp only
  refine ⟨hq.ok key, keys_mp hq es, ?_⟩
  rw [mdel_mp hq, ho']; exact hN
end
end Go.Proofs.YtcpjmkbcefmldaaGreatDoor.AM

/- Rows written by index, as the models have them. -/
namespace Go.Proofs.YtcpjmkbcefmldaaGreatDoor.AM
open Go

theorem leC_refl : ∀ xs : List AV, leC xs xs
  | [] => trivial
  | x :: xs => ⟨AV.le_refl x, leC_refl xs⟩
theorem leOb1_rc (l : List (List D)) : leOb1 (.box (rowCells l)) (.box (rowCells l)) := leC_refl _
theorem rb_below (l : List (List D)) (n : Nat) : (Obj.box (rowCells l)).idsLt n = true := by
  show AV.idsLtL n (l.flatten.map .ofD) = true
  generalize l.flatten = xs
  induction xs with
  | nil => rfl
  | cons d xs ih =>
    simp only [List.map_cons, AV.idsLtL, ih, Bool.and_true]
    cases d <;> rfl

section
variable {P : Program} {n : Nat} {o : List (Nat × AV)} {objs objs' : List Obj} {x y : Operand} {t : TypeId} {α : Type} {c : α → List D} {l : List α}
theorem E_mkrL {i j : TI} {e : TypeId} {k : Nat} {m : Int} {z : α} (ht : ti P t = some i) (hd : i.desc = .slice e) (hj : ti P e = some j) (h0 : 0 < j.size) (hx : evo n o x = .v (.int .i64 m)) (hy : evo n o y = .v (.int .i64 m)) (hk : objs.length = k)
    (ho : objs ++ [.box (rowCells ((List.replicate m.toNat z).map c))] = objs') (hz : ∀ r, (c r).length = j.size) (hzz : j.zero.map AV.v = (c z).map .ofD) (hm : 0 ≤ m ∧ m ≤ 9223372036854775807 ∧ m.toNat * j.bytes ≤ 281474976710656) :
    Eff P (.makeSlice t x y) n o objs (.bsl k 0 (List.replicate m.toNat z).length) objs' := by
  subst ho
  rw [List.length_replicate]
  exact E_mkr ht hd hj h0 hz hzz hx hy hm hk
theorem E_strowL {i : TI} {k q : Nat} {v : α} (ht : ti P t = some i) (hx : evo n o x = .ptr k (0 + q * i.size)) (ho : objs[k]? = some (.box (rowCells (l.map c)))) (hy : cellsAV (evo n o y) = some ((c v).map .ofD)) (ho' : objs.set k (.box (rowCells ((l.set q v).map c))) = objs') (hz : ∀ r, (c r).length = i.size) (hq : q < l.length) :
    Eff P (.store t x y) n o objs .any objs' := by
  subst ho'
  exact E_strow ht hz hx rfl hq hy ho
end
end Go.Proofs.YtcpjmkbcefmldaaGreatDoor.AM

/- Contracts of functions that are handed objects: pointers, maps; and how they are called where these objects lie elsewhere. -/
namespace Go.Proofs.YtcpjmkbcefmldaaGreatDoor.AM
open Go

/-! ### Objects told under other numbers -/
theorem renL_at {f : Nat → Nat} : ∀ {xs : List AV} {i : Nat} {x : AV}, xs[i]? = some x → (AV.renL f xs)[i]? = some (x.ren f)
  | [], i, x, h => by simp at h
  | y :: xs, 0, x, h => by simp at h; subst h; rfl
  | y :: xs, i + 1, x, h => by simp only [AV.renL, List.getElem?_cons_succ] at h ⊢; exact renL_at h
section
variable {G G' : Ghost} {f : Nat → Nat} {n : Nat} (hb : ∀ (o : Nat) g, o < n → G.bl[f o]? = some g → G'.bl[o]? = some g) (hi : G'.imm = G.imm)
include hb hi
theorem im_unren {t : Tk} (ht : t.idsLt n = true) {b off : Nat} (h : G.im (t.ren f) b off) : G'.im t b off := by
  cases t with
  | none => show G'.imm b off; rw [hi]; exact h
  | exact => show G'.imm b off; rw [hi]; exact h
  | own o =>
    simp only [Tk.idsLt, decide_eq_true_eq] at ht
    rcases h with h | ⟨l, c, s, h1, h2⟩
    · exact .inl (by rw [hi]; exact h)
    · exact .inr ⟨l, c, s, hb o _ ht h1, h2⟩
theorem Conc.unren {w : World} {y : AV} {v : Value} (h : Conc G w y v) : ∀ x : AV, x.ren f = y → x.idsLt n = true → Conc G' w x v := by
  have imx : ∀ b off, G.imm b off → G'.imm b off := fun b off h => by rw [hi]; exact h
  induction h with
  | v y hy => intro x e _; cases x <;> simp [AV.ren] at e; subst e; exact .v _ hy
  | any v => intro x e _; cases x <;> simp [AV.ren] at e; exact .any _
  | cnd g y v _ h' ih =>
    intro x e hx
    cases x <;> simp [AV.ren] at e
    obtain ⟨rfl, rfl⟩ := e
    exact .cnd _ _ _ (fun hg => ih hg _ rfl (by simpa [AV.idsLt] using hx)) h'
  | sl rows t v hd ht =>
    intro x e hx
    cases x <;> simp [AV.ren] at e
    rename_i rows' t'
    obtain ⟨rfl, rfl⟩ := e
    simp only [AV.idsLt] at hx
    refine .sl _ _ v (hd.mono (fun _ _ _ => rfl) (fun b off h => im_unren hb hi hx h) (fun _ _ _ => rfl) imx) ?_
    cases t' with
    | none => trivial
    | exact => exact ht
    | own o =>
      simp only [Tk.idsLt, decide_eq_true_eq] at hx
      rcases ht with ⟨l, h1, h2⟩ | ⟨b, l, c, sz, ex, h1, h2⟩
      · exact .inl ⟨l, hb o _ hx h1, h2⟩
      · exact .inr ⟨b, l, c, sz, ex, hb o _ hx h1, h2⟩
  | agg cs vs hl h1 _ ih =>
    intro x e hx
    cases x <;> simp [AV.ren] at e
    subst e
    refine .agg _ vs (by rw [hl, renL_length]) h1 (fun i c v hc hv => ?_)
    refine ih i (c.ren f) v ?_ hv c rfl (belowL_get (by simpa [AV.idsLt] using hx) i c hc)
    exact renL_at hc
  | tup cs vs hl _ ih =>
    intro x e hx
    cases x <;> simp [AV.ren] at e
    subst e
    refine .tup _ vs (by rw [hl, renL_length]) (fun i c v hc hv => ?_)
    refine ih i (c.ren f) v ?_ hv c rfl (belowL_get (by simpa [AV.idsLt] using hx) i c hc)
    exact renL_at hc
  | ptr o off b h =>
    intro x e hx
    cases x <;> simp [AV.ren] at e
    obtain ⟨rfl, rfl⟩ := e
    exact .ptr _ _ b (hb _ _ (by simpa [AV.idsLt] using hx) h)
  | ep rows i off t b st sz h c ht =>
    intro x e hx
    cases x <;> simp [AV.ren] at e
    obtain ⟨rfl, rfl, rfl, rfl⟩ := e
    simp only [AV.idsLt] at hx
    refine .ep _ _ _ _ b st sz (h.mono (fun _ _ _ => rfl) (fun b off h => im_unren hb hi hx h) (fun _ _ _ => rfl) imx) c ?_
    rename_i t'
    cases t' with
    | none => trivial
    | exact => exact ht
    | own o =>
      simp only [Tk.idsLt, decide_eq_true_eq] at hx
      rcases ht with ⟨l, h1, h2⟩ | ⟨b, l, c, sz, ex, h1, h2⟩
      · exact .inl ⟨l, hb o _ hx h1, h2⟩
      · exact .inr ⟨b, l, c, sz, ex, hb o _ hx h1, h2⟩
  | bsl o off len cap b h h1 h2 =>
    intro x e hx
    cases x <;> simp [AV.ren] at e
    obtain ⟨rfl, rfl, rfl⟩ := e
    exact .bsl _ _ _ cap b (hb _ _ (by simpa [AV.idsLt] using hx) h) h1 h2
  | bsl0 o off cap a h2 =>
    intro x e hx
    cases x <;> simp [AV.ren] at e
    obtain ⟨rfl, rfl, rfl⟩ := e
    exact .bsl0 _ _ cap a h2
  | map o b h =>
    intro x e hx
    cases x <;> simp [AV.ren] at e
    subst e
    exact .map _ b (hb _ _ (by simpa [AV.idsLt] using hx) h)
  | fn g first cap vf vc h1 h2 _ _ ih1 ih2 =>
    intro x e hx
    cases x <;> simp [AV.ren] at e
    obtain ⟨rfl, rfl, rfl⟩ := e
    simp only [AV.idsLt, Bool.and_eq_true] at hx
    exact .fn _ _ _ vf vc (by rw [h1, renL_length]) (by rw [h2, renL_length])
      (fun i c v hc hv => ih1 i (c.ren f) v (renL_at hc) hv c rfl (belowL_get hx.1 i c hc))
      (fun i c v hc hv => ih2 i (c.ren f) v (renL_at hc) hv c rfl (belowL_get hx.2 i c hc))
theorem ObjOk.unren {w : World} {g : GB} {x : Obj} (h : ObjOk G w g (x.ren f)) (hx : x.idsLt n = true) : ObjOk G' w g x := by
  cases x with
  | box cs =>
    rcases h with ⟨hz, l, hl⟩ | ⟨b, c, e, e1, e2, e3, e4, e5⟩
    · refine .inl ⟨?_, l, hl⟩
      have := congrArg List.length hz
      rw [renL_length] at this
      exact List.eq_nil_of_length_eq_zero this
    · refine .inr ⟨b, c, e, e1, e2, by rw [renL_length] at e3; exact e3, fun j z v hz hv => ?_, fun off => by rw [hi]; exact e5 off⟩
      obtain ⟨q1, q2⟩ := e4 j (z.ren f) v (renL_at hz) hv
      exact ⟨q1, q2.unren hb hi z rfl (belowL_get (by simpa [Obj.idsLt] using hx) j z hz)⟩
  | tok l sz e ex =>
    rcases h with h | ⟨b, cap, cur, e1, e2, e3, e4, e5, e6, e7⟩
    · exact .inl h
    · exact .inr ⟨b, cap, cur, e1, e2, e3, e4, e5, fun hx off => by rw [hi]; exact e6 hx off, fun hx off => by rw [hi]; exact e7 hx off⟩
  | lin v sz e rows =>
    rcases h with h | ⟨b, cap, cur, e1, e2, e3, e4, e5, e6, e7, e8⟩
    · exact .inl h
    · exact .inr ⟨b, cap, cur, e1, e2, e3, e4, e5, e6, fun off => by rw [hi]; exact e7 off, e8.mono (fun _ _ _ => rfl) (fun _ _ h => h) (fun _ _ _ => rfl) (fun _ _ h => by rw [hi]; exact h)⟩
  | map es =>
    obtain ⟨b, ents, clock, e1, e2, e3, e4, e5, e6⟩ := h
    refine ⟨b, ents, clock, e1, e2, by simpa using e3, fun i k y e hk he => ?_, e5, fun off => by rw [hi]; exact e6 off⟩
    obtain ⟨q1, q2, q3⟩ := e4 i k (y.ren f) e (by rw [List.getElem?_map, hk]; rfl) he
    have hall : es.all (fun e => e.2.idsLt n) = true := hx
    exact ⟨q1, q2.unren hb hi y rfl (List.all_eq_true.1 hall _ (List.mem_of_getElem? hk)), q3⟩
  | mapB bs clock es =>
    obtain ⟨b, ents, e1, e2, e3, e4, e5, e7, e6⟩ := h
    refine ⟨b, ents, e1, e2, by simpa using e3, fun i k y e hk he => ?_, e5, e7, fun off => by rw [hi]; exact e6 off⟩
    obtain ⟨q1, q2, q3⟩ := e4 i k (y.ren f) e (by rw [List.getElem?_map, hk]; rfl) he
    have hall : es.all (fun e => e.2.idsLt n) = true := hx
    exact ⟨q1, q2.unren hb hi y rfl (List.all_eq_true.1 hall _ (List.mem_of_getElem? hk)), q3⟩
  | iter m since seen =>
    obtain ⟨b, mb, e1, e2, e3, e4⟩ := h
    exact ⟨b, mb, e1, hb m _ (by simpa [Obj.idsLt] using hx) e2, e3, fun off => by rw [hi]; exact e4 off⟩
  | bld e buf =>
    obtain ⟨b, c0, c1, e1, e2, e3, e4, e5, e6⟩ := h
    exact ⟨b, c0, c1, e1, e2, e3, e4, e5.unren hb hi buf rfl (by simpa [Obj.idsLt] using hx), fun off => by rw [hi]; exact e6 off⟩
  | dead => exact h
end

/-! ### Lists laid into others -/
def setAll {α : Type} : List Nat → List α → List α → List α
  | [], l, _ => l
  | k :: ks, l, x :: xs => setAll ks (l.set k x) xs
  | _ :: _, l, [] => l
def mergeL {α : Type} (ks : List Nat) (l l' : List α) : List α := setAll ks l l' ++ l'.drop ks.length
def rn (ks : List Nat) (n i : Nat) : Nat := match ks[i]? with | some k => k | none => n + (i - ks.length)

theorem setAll_length {α : Type} : ∀ (ks : List Nat) (l xs : List α), (setAll ks l xs).length = l.length
  | [], _, _ => rfl
  | _ :: ks, l, x :: xs => by simp [setAll, setAll_length ks]
  | _ :: _, _, [] => rfl
theorem setAll_other {α : Type} : ∀ (ks : List Nat) (l xs : List α) (o : Nat), o ∉ ks → (setAll ks l xs)[o]? = l[o]?
  | [], _, _, _, _ => rfl
  | k :: ks, l, x :: xs, o, h => by
    simp only [List.mem_cons, not_or] at h
    rw [setAll, setAll_other ks _ xs o h.2, List.getElem?_set, if_neg (Ne.symm h.1)]
  | _ :: _, _, [], _, _ => rfl
theorem setAll_at {α : Type} : ∀ (ks : List Nat) (l xs : List α) (i k : Nat) (x : α), ks.Nodup → (∀ k ∈ ks, k < l.length) → ks[i]? = some k → xs[i]? = some x → (setAll ks l xs)[k]? = some x
  | [], _, _, i, k, x, _, _, h, _ => by simp at h
  | k0 :: ks, l, [], i, k, x, _, _, _, h => by simp at h
  | k0 :: ks, l, y :: xs, 0, k, x, hn, hl, h1, h2 => by
    simp at h1 h2
    subst h1; subst h2
    rw [setAll, setAll_other ks _ xs _ (List.nodup_cons.1 hn).1, List.getElem?_set, if_pos rfl, if_pos (hl _ (by simp))]
  | k0 :: ks, l, y :: xs, i + 1, k, x, hn, hl, h1, h2 => by
    rw [setAll]
    exact setAll_at ks _ xs i k x (List.nodup_cons.1 hn).2 (fun k hk => by rw [List.length_set]; exact hl k (by simp [hk])) (by simpa using h1) (by simpa using h2)
theorem mergeL_rn {α : Type} {ks : List Nat} {l l' : List α} (hn : ks.Nodup) (hl : ∀ k ∈ ks, k < l.length) {i : Nat} {x : α} (h : l'[i]? = some x) : (mergeL ks l l')[rn ks l.length i]? = some x := by
  unfold mergeL rn
  cases hk : ks[i]? with
  | some k =>
    have hkl : k < l.length := hl k (List.mem_of_getElem? hk)
    simp only
    rw [List.getElem?_append_left (by rw [setAll_length]; exact hkl)]
    exact setAll_at ks l l' i k x hn hl hk h
  | none =>
    simp only
    have hi : ks.length ≤ i := by
      rcases Nat.lt_or_ge i ks.length with h' | h'
      · rw [List.getElem?_eq_getElem h'] at hk; cases hk
      · exact h'
    rw [List.getElem?_append_right (by rw [setAll_length]; omega), setAll_length, List.getElem?_drop, show ks.length + (l.length + (i - ks.length) - l.length) = i from by omega]
    exact h
theorem mergeL_cases {α : Type} {ks : List Nat} {l l' : List α} (hn : ks.Nodup) (hl : ∀ k ∈ ks, k < l.length) (hle : ks.length ≤ l'.length) {o : Nat} {x : α} (h : (mergeL ks l l')[o]? = some x) :
    (o ∉ ks ∧ o < l.length ∧ l[o]? = some x) ∨ ∃ i, o = rn ks l.length i ∧ l'[i]? = some x := by
  by_cases ho : o ∈ ks
  · right
    obtain ⟨i, hi⟩ := List.getElem?_of_mem ho
    have hil : i < ks.length := (List.getElem?_eq_some_iff.1 hi).1
    have hx : l'[i]? = some (l'[i]'(by omega)) := List.getElem?_eq_getElem (by omega)
    have hrn : rn ks l.length i = o := by simp [rn, hi]
    have := mergeL_rn hn hl hx
    rw [hrn, h] at this
    cases this
    exact ⟨i, hrn.symm, hx⟩
  · rcases Nat.lt_or_ge o l.length with h' | h'
    · left
      refine ⟨ho, h', ?_⟩
      unfold mergeL at h
      rw [List.getElem?_append_left (by rw [setAll_length]; exact h'), setAll_other ks l l' o ho] at h
      exact h
    · right
      unfold mergeL at h
      rw [List.getElem?_append_right (by rw [setAll_length]; exact h'), setAll_length, List.getElem?_drop] at h
      refine ⟨ks.length + (o - l.length), ?_, h⟩
      have : ks[ks.length + (o - l.length)]? = none := List.getElem?_eq_none (by omega)
      simp only [rn, this]
      omega
theorem mergeL_old {α : Type} {ks : List Nat} {l l' : List α} {o : Nat} (ho : o ∉ ks) (h : o < l.length) : (mergeL ks l l')[o]? = l[o]? := by
  unfold mergeL
  rw [List.getElem?_append_left (by rw [setAll_length]; exact h), setAll_other ks l l' o ho]
theorem mergeL_length {α : Type} (ks : List Nat) (l l' : List α) : (mergeL ks l l').length = l.length + (l'.length - ks.length) := by
  simp [mergeL, setAll_length]

def AEnd.ren (f : Nat → Nat) : AEnd → AEnd
  | .ret x => .ret (x.ren f)
  | .pan x => .pan (x.ren f)

theorem ACall.frameR {P : Program} {f : Nat} {args : List AV} {oin : List Obj} {R : AEnd → List Obj → Prop} (h : ACall P f args oin R) (hRl : ∀ ae o, R ae o → oin.length ≤ o.length) (ks : List Nat) (objs : List Obj) (hn : ks.Nodup) (hl : ∀ k ∈ ks, k < objs.length) (hlen : ks.length = oin.length)
    (hob : ∀ (i k : Nat) (x : Obj), ks[i]? = some k → oin[i]? = some x → objs[k]? = some (x.ren (rn ks objs.length))) (ha : AV.idsLtL oin.length args = true) (hbel : belowObjs oin.length oin = true) :
    ACall P f (AV.renL (rn ks objs.length) args) objs (fun ae o => ∃ ae0 o0, R ae0 o0 ∧ ae = ae0.ren (rn ks objs.length) ∧ o = mergeL ks objs (o0.map (Obj.ren (rn ks objs.length)))) := by
  intro G w vs hm hc
  have hrn : ∀ i, i < ks.length → ∃ k, ks[i]? = some k ∧ rn ks objs.length i = k := fun i hi => ⟨ks[i], List.getElem?_eq_getElem hi, by simp [rn, List.getElem?_eq_getElem hi]⟩
  let bs : List GB := ks.map fun k => G.bl.getD k (.full 0)
  have hbs : ∀ (i k : Nat), ks[i]? = some k → bs[i]? = G.bl[k]? := by
    intro i k hk
    have hkl := hl k (List.mem_of_getElem? hk)
    rw [← hm.len] at hkl
    simp only [bs, List.getElem?_map, hk, Option.map_some, List.getD_eq_getElem?_getD, List.getElem?_eq_getElem hkl, Option.getD_some]
  have hb : ∀ (o : Nat) g, o < oin.length → G.bl[rn ks objs.length o]? = some g → bs[o]? = some g := by
    intro o g ho hg
    obtain ⟨k, hk, hr⟩ := hrn o (by omega)
    rw [hr] at hg
    rw [hbs o k hk]; exact hg
  have hbl : bs.length = oin.length := by simp [bs, hlen]
  have hsub : ∀ (i : Nat) (g : GB), bs[i]? = some g → ∃ k, ks[i]? = some k ∧ G.bl[k]? = some g := by
    intro i g hg
    have hi : i < bs.length := (List.getElem?_eq_some_iff.1 hg).1
    obtain ⟨k, hk, _⟩ := hrn i (by omega)
    exact ⟨k, hk, by rw [← hbs i k hk]; exact hg⟩
  have hnd : ∀ (i j k : Nat), ks[i]? = some k → ks[j]? = some k → i = j := by
    intro i j k h1 h2
    have hi := (List.getElem?_eq_some_iff.1 h1)
    have hj := (List.getElem?_eq_some_iff.1 h2)
    obtain ⟨hi1, hi2⟩ := hi
    obtain ⟨hj1, hj2⟩ := hj
    have hp := List.pairwise_iff_getElem.1 hn
    rcases Nat.lt_trichotomy i j with h | h | h
    · exact absurd (hi2.trans hj2.symm) (hp i j hi1 hj1 h)
    · exact h
    · exact absurd (hj2.trans hi2.symm) (hp j i hj1 hi1 h)
  have hm0 : Mem ⟨bs, G.imm⟩ oin w := by
    refine ⟨hbl, ?_, ?_, ?_, hm.immLt⟩
    · intro o x g hx hg
      obtain ⟨k, hk, hgk⟩ := hsub o g hg
      have hox : o < oin.length := (List.getElem?_eq_some_iff.1 hx).1
      exact (hm.ok k _ g (hob o k x hk hx) hgk).unren (G' := ⟨bs, G.imm⟩) hb rfl (belowObjs_get hbel o x hx)
    · intro o o' g g' b h1 h2 e1 e2
      obtain ⟨k, hk, hgk⟩ := hsub o g h1
      obtain ⟨k', hk', hgk'⟩ := hsub o' g' h2
      have := hm.inj k k' g g' b hgk hgk' e1 e2
      subst this
      exact hnd o o' k hk hk'
    · intro o g b h1 e1
      obtain ⟨k, hk, hgk⟩ := hsub o g h1
      exact hm.lt k g b hgk e1
  have hc0 : ConcL ⟨bs, G.imm⟩ w args vs := ⟨by rw [hc.1, renL_length], fun i x v hx hv => (hc.2 i _ v (renL_at hx) hv).unren (G' := ⟨bs, G.imm⟩) hb rfl x rfl (belowL_get ha i x hx)⟩
  refine (h ⟨bs, G.imm⟩ w vs hm0 hc0).mono ?_
  rintro e w' ⟨ae0, o0, G', hR, hm', hst, hend⟩
  have hl' : ks.length ≤ G'.bl.length := by rw [hm'.len, hlen]; exact hRl _ _ hR
  have hlG : ∀ k ∈ ks, k < G.bl.length := fun k hk => by rw [hm.len]; exact hl k hk
  let G2 : Ghost := ⟨mergeL ks G.bl G'.bl, G'.imm⟩
  have hlenG : objs.length = G.bl.length := hm.len.symm
  have hnew : ∀ (o : Nat) g, G'.bl[o]? = some g → G2.bl[rn ks objs.length o]? = some g := fun o g hg => by rw [hlenG]; exact mergeL_rn hn hlG hg
  have hold : ∀ (o : Nat), o ∉ ks → o < G.bl.length → G2.bl[o]? = G.bl[o]? := fun o h1 h2 => mergeL_old h1 h2
  have hpart : ∀ (o : Nat) (g : GB), G2.bl[o]? = some g → (o ∉ ks ∧ o < G.bl.length ∧ G.bl[o]? = some g) ∨ ∃ i, o = rn ks objs.length i ∧ G'.bl[i]? = some g := fun o g hg => by
    rw [hlenG]; exact mergeL_cases hn hlG hl' hg
  -- blocks of the objects that stay aside are as they were
  have haside : ∀ (o : Nat) (g : GB) (b : Nat), o ∉ ks → G.bl[o]? = some g → g.blk = some b → w'.heap[b]? = w.heap[b]? := by
    intro o g b ho hg hbk
    refine hst.heap b (hm.lt o g b hg hbk) ?_
    intro i g' hg' hbk'
    obtain ⟨k, hk, hgk⟩ := hsub i g' hg'
    have := hm.inj o k g g' b hg hgk hbk hbk'
    subst this
    exact ho (List.mem_of_getElem? hk)
  have himmold : ∀ (o : Nat) (g : GB) (b : Nat), o ∉ ks → G.bl[o]? = some g → g.blk = some b → ∀ off, G'.imm b off → G.imm b off := by
    intro o g b ho hg hbk off hi
    rcases hst.imm2 b off hi with h | h | ⟨i, g', h1, h2⟩
    · exact h
    · have := hm.lt o g b hg hbk; omega
    · obtain ⟨k, hk, hgk⟩ := hsub i g' h1
      have := hm.inj o k g g' b hg hgk hbk h2
      subst this
      exact absurd (List.mem_of_getElem? hk) ho
  have him : ∀ t b off, G.im t b off → w'.cell? ⟨b, off, none⟩ = w.cell? ⟨b, off, none⟩ ∧ G2.im t b off := by
    intro t b off hi
    rcases im_cases hi with hi0 | ⟨o, l, c, sz, rfl, h1, h2⟩
    · exact ⟨hst.ext.cells .none b off hi0, G2.imm_im t (hst.ext.im .none b off hi0)⟩
    · by_cases ho : o ∈ ks
      · obtain ⟨i, hi⟩ := List.getElem?_of_mem ho
        have hg : bs[i]? = some (.tok b l c sz true) := by rw [hbs i o hi]; exact h1
        have hin : Ghost.im ⟨bs, G.imm⟩ (.own i) b off := .inr ⟨l, c, sz, hg, h2⟩
        refine ⟨hst.ext.cells (.own i) b off hin, ?_⟩
        have hr : rn ks objs.length i = o := by simp [rn, hi]
        rcases hst.ext.im (.own i) b off hin with k1 | ⟨l', c', sz', k1, k2⟩
        · exact .inl k1
        · exact .inr ⟨l', c', sz', by rw [← hr]; exact hnew i _ k1, k2⟩
      · have hol : o < G.bl.length := (List.getElem?_eq_some_iff.1 h1).1
        exact ⟨cell_of_heap (haside o _ b ho h1 rfl) off, .inr ⟨l, c, sz, by rw [hold o ho hol]; exact h1, h2⟩⟩
  have hext : Ext G w G2 w' := by
    refine ⟨fun t b off hi => (him t b off hi).1, fun t b off hi => (him t b off hi).2, ?_, ?_, ?_⟩
    · intro o b ho
      by_cases hk : o ∈ ks
      · obtain ⟨i, hi⟩ := List.getElem?_of_mem hk
        have hr : rn ks objs.length i = o := by simp [rn, hi]
        rw [← hr]
        exact hnew i _ (hst.ext.obj i b (by rw [hbs i o hi]; exact ho))
      · rw [hold o hk (List.getElem?_eq_some_iff.1 ho).1]; exact ho
    · intro o l ho
      by_cases hk : o ∈ ks
      · obtain ⟨i, hi⟩ := List.getElem?_of_mem hk
        have hr : rn ks objs.length i = o := by simp [rn, hi]
        rw [← hr]
        rcases hst.ext.full i l (by rw [hbs i o hi]; exact ho) with h | ⟨b, l', c, sz, ex, h1, h2⟩
        · exact .inl (hnew i _ h)
        · exact .inr ⟨b, l', c, sz, ex, hnew i _ h1, h2⟩
      · exact .inl (by rw [hold o hk (List.getElem?_eq_some_iff.1 ho).1]; exact ho)
    · intro o b l c sz ex ho
      by_cases hk : o ∈ ks
      · obtain ⟨i, hi⟩ := List.getElem?_of_mem hk
        have hr : rn ks objs.length i = o := by simp [rn, hi]
        rw [← hr]
        obtain ⟨b', l', c', sz', ex', h1, h2⟩ := hst.ext.tok i b l c sz ex (by rw [hbs i o hi]; exact ho)
        exact ⟨b', l', c', sz', ex', hnew i _ h1, h2⟩
      · exact ⟨b, l, c, sz, ex, by rw [hold o hk (List.getElem?_eq_some_iff.1 ho).1]; exact ho, .inr ⟨rfl, rfl, rfl⟩⟩
  have hblk : ∀ (i : Nat) (g : GB) (b : Nat), G'.bl[i]? = some g → g.blk = some b → w.heap.size ≤ b ∨ ∃ k, k ∈ ks ∧ ∃ g', G.bl[k]? = some g' ∧ g'.blk = some b := by
    intro i g b hg hbk
    rcases hst.blk i g b hg hbk with h | ⟨j, g', h1, h2⟩
    · exact .inl h
    · obtain ⟨k, hk, hgk⟩ := hsub j g' h1
      exact .inr ⟨k, List.mem_of_getElem? hk, g', hgk, h2⟩
  refine ⟨ae0.ren (rn ks objs.length), mergeL ks objs (o0.map (Obj.ren (rn ks objs.length))), G2, ⟨ae0, o0, hR, rfl, rfl⟩, ?_, ?_, ?_⟩
  · refine ⟨by simp [G2, mergeL_length, hm.len, hm'.len], ?_, ?_, ?_, hm'.immLt⟩
    · intro o x g hx hg
      have hl2 : ks.length ≤ (o0.map (Obj.ren (rn ks objs.length))).length := by rw [List.length_map, ← hm'.len]; exact hl'
      rcases hpart o g hg with ⟨ho, hol, hg'⟩ | ⟨i, rfl, hg'⟩
      · rw [mergeL_old ho (by rw [← hm.len]; exact hol)] at hx
        exact (hm.ok o x g hx hg').mono hext (fun b hb => haside o g b ho hg' hb) (fun b hb off hi => himmold o g b ho hg' hb off hi)
      · have hil : i < o0.length := by rw [← hm'.len]; exact (List.getElem?_eq_some_iff.1 hg').1
        have hx0 : o0[i]? = some o0[i] := List.getElem?_eq_getElem hil
        have : (o0.map (Obj.ren (rn ks objs.length)))[i]? = some (o0[i].ren (rn ks objs.length)) := by rw [List.getElem?_map, hx0]; rfl
        rw [mergeL_rn hn hl this] at hx
        cases hx
        exact (hm'.ok i _ g hx0 hg').ren hnew rfl
    · intro o o' g g' b h1 h2 e1 e2
      rcases hpart o g h1 with ⟨ho, hol, k1⟩ | ⟨i, rfl, k1⟩ <;> rcases hpart o' g' h2 with ⟨ho', hol', k2⟩ | ⟨j, rfl, k2⟩
      · exact hm.inj o o' g g' b k1 k2 e1 e2
      · exfalso
        have hlt := hm.lt o g b k1 e1
        rcases hblk j g' b k2 e2 with h | ⟨k, hk, g2, h3, h4⟩
        · omega
        · have := hm.inj o k g g2 b k1 h3 e1 h4
          subst this; exact ho hk
      · exfalso
        have hlt := hm.lt o' g' b k2 e2
        rcases hblk i g b k1 e1 with h | ⟨k, hk, g2, h3, h4⟩
        · omega
        · have := hm.inj o' k g' g2 b k2 h3 e2 h4
          subst this; exact ho' hk
      · rw [hm'.inj i j g g' b k1 k2 e1 e2]
    · intro o g b h1 e1
      rcases hpart o g h1 with ⟨ho, hol, k1⟩ | ⟨i, rfl, k1⟩
      · exact Nat.lt_of_lt_of_le (hm.lt o g b k1 e1) hst.size
      · exact hm'.lt i g b k1 e1
  · refine ⟨hext, ?_, hst.size, hst.os, hst.tape, hst.output, ?_, ?_⟩
    · intro k hk hno
      refine hst.heap k hk ?_
      intro i g hg
      obtain ⟨k', _, hgk⟩ := hsub i g hg
      exact hno k' g hgk
    · intro b off hi
      rcases hst.imm2 b off hi with h | h | ⟨i, g, h1, h2⟩
      · exact .inl h
      · exact .inr (.inl h)
      · obtain ⟨k, _, hgk⟩ := hsub i g h1
        exact .inr (.inr ⟨k, g, hgk, h2⟩)
    · intro o g b h1 e1
      rcases hpart o g h1 with ⟨ho, hol, k1⟩ | ⟨i, rfl, k1⟩
      · exact .inr ⟨o, g, k1, e1⟩
      · rcases hblk i g b k1 e1 with h | ⟨k, _, g', h3, h4⟩
        · exact .inl h
        · exact .inr ⟨k, g', h3, h4⟩
  · cases ae0 with
    | ret x =>
      cases e with
      | returned v => exact hend.ren hnew rfl
      | panicked chain => exact hend.elim
      | outgrown => exact hend.elim
    | pan x =>
      cases e with
      | returned v => exact hend.elim
      | panicked chain => obtain ⟨v, hv, hx⟩ := hend; exact ⟨v, hv, hx.ren hnew rfl⟩
      | outgrown => exact hend.elim

end Go.Proofs.YtcpjmkbcefmldaaGreatDoor.AM

/- Functions that are handed objects, for the models: contracts, calls, answers; ranges over maps; tails of drawn regions. -/
namespace Go.Proofs.YtcpjmkbcefmldaaGreatDoor.AM
open Go

def FunO (P : Program) (f : Nat) (args : List AV) (oin : List Obj) (x : AV) (o0 : List Obj) : Prop := ACall P f args oin (fun ae o => ae = .ret x ∧ o = o0)

theorem FunO.of_model {P : Program} {β : Type} {f : Nat} {fn : Func} {c : Code} {args : List AV} {oin : List Obj} {m : Option β} {X : β → AV} {O : β → List Obj} {r : β} (hf : P.funcs[f]? = some fn) (hb : fn.body = some c) (hl : args.length ≤ fn.ntmps) (hm : m = some r) {n0 : Nat} (hn0 : oin.length = n0)
    (h : H m (fun y => y = r) (awp P n0 c (st fn.ntmps (argsO 0 args) oin) (bodyQ P n0 fn.results.toList (RetIs X O r)) (fun _ _ => False))) : FunO P f args oin (X r) (O r) := by
  subst hn0
  have h2 := h r hm rfl
  refine ACall.mono (R := RetIs X O r) (ACall.of_awp hf hb ?_) (fun _ _ h => h)
  rw [args_ov args fn.ntmps hl]
  have he : (fun x objs' => RetIs X O r (.pan x) objs') = fun (_ : AV) (_ : List Obj) => False := by
    funext x o'
    simp [RetIs]
  rw [he]; exact h2

/-! ### Answers -/
section
variable {P : Program} {β : Type} {r v : β} {n0 n : Nat} {o : List (Nat × AV)} {objs objs1 : List Obj} {rs : List ResultVar} {X : β → AV} {O : β → List Obj} {xs ys : List AV}
theorem Weak.one {n0 : Nat} {xs ys : List AV} {objs objs' : List Obj} (hx : AV.leL xs ys) (ho : leOb objs objs') (hn : n0 ≤ objs'.length) (h1 : AV.idsLtL objs'.length ys = true) (h2 : belowObjs objs'.length objs' = true) :
    Weak n0 ⟨[oneOf xs], objs⟩ ⟨[oneOf ys], objs'⟩ := by
  match xs, ys, hx, h1 with
  | [], [], _, _ => exact (Weak.tup (n0 := n0) (xs := []) (ys := []) trivial).trans (Weak.gen (tmps := [.tup []]) (tmps' := [.tup []]) ⟨AV.le_refl _, trivial⟩ ho hn (by simp [AV.idsLtL, AV.idsLt]) h2)
  | [x], [y], hx, h1 => exact Weak.gen (tmps := [x]) (tmps' := [y]) hx ho hn h1 h2
  | x :: x1 :: xs, y :: y1 :: ys, hx, h1 => exact (Weak.tup hx).trans (Weak.gen (tmps := [.tup (y :: y1 :: ys)]) (tmps' := [.tup (y :: y1 :: ys)]) ⟨AV.le_refl _, trivial⟩ ho hn (by simpa [AV.idsLtL, AV.idsLt] using h1) h2)
  | [x], _ :: _ :: _, hx, _ => exact hx.2.elim
  | _ :: _ :: _, [y], hx, _ => exact hx.2.elim
theorem Weak.strip1 {n0 : Nat} {xs : List AV} {objs : List Obj} : Weak n0 ⟨[oneOf xs], objs⟩ ⟨[oneOf (AV.stripL xs)], AV.pubL objs xs⟩ := by
  intro G0 w0 G a w hn hf
  obtain ⟨G', k1, k2, k3⟩ := stripL_step xs G objs hf.sat.mem
  have hv := hf.sat.tmps
  have hlen : a.tmps.toList.length = 1 := hv.1
  match hal : a.tmps.toList, hlen with
  | [u], _ =>
    rw [hal] at hv
    have h0 := hv.2 0 _ u rfl rfl
    refine ⟨G', hf.step.trans k1, k2, ?_, hf.sat.defers⟩
    rw [hal]
    refine ⟨rfl, fun i x v hx hv' => ?_⟩
    cases i with
    | succ i => simp at hx
    | zero =>
      simp at hx hv'
      subst hx; subst hv'
      match xs, h0, k3 with
      | [], h0, k3 => cases h0 with | tup _ vs hl hc => exact .tup [] vs hl (fun i c v h => by simp at h)
      | [x], h0, k3 => exact (k3 [u] ⟨rfl, fun i x v hx hv => by
          cases i with
          | zero => simp at hx hv; subst hx; subst hv; exact h0
          | succ i => simp at hx⟩).2 0 _ u rfl rfl
      | x :: x1 :: xs, h0, k3 =>
        cases h0 with
        | tup _ vs hl hc =>
          obtain ⟨q1, q2⟩ := k3 vs ⟨hl, hc⟩
          exact .tup _ vs q1 q2
theorem R_retS (hr : resL P (st n o objs) rs = some xs) (hp : AV.pubL objs xs = objs1) (hX : oneOf ys = X v) (hx : AV.leL (AV.stripL xs) ys) (ho : leOb objs1 (O v)) (hn : Nat.ble n0 (O v).length = true) (h1 : AV.idsLtL (O v).length ys = true) (h2 : belowObjs (O v).length (O v) = true) :
    H (retM v) (fun y => y = r) (bodyQ P n0 rs (RetIs X O r) .ret (st n o objs)) := by
  refine H_ret ?_
  rintro rfl
  subst hp
  exact ⟨oneOf xs, by unfold resAV; rw [hr]; rfl, X v, O v, hX ▸ Weak.strip1.trans (Weak.one hx ho (Nat.le_of_ble_eq_true hn) h1 h2), rfl, rfl⟩
end

/-! ### Calls -/
def inOk (f : Nat → Nat) (objs : List Obj) : List Nat → List Obj → Prop
  | [], [] => True
  | k :: ks, x :: xs => objs[k]? = some (x.ren f) ∧ inOk f objs ks xs
  | _, _ => False
theorem inOk_get {f : Nat → Nat} {objs : List Obj} : ∀ {ks : List Nat} {oin : List Obj}, inOk f objs ks oin → ks.length = oin.length ∧ ∀ (i k : Nat) (x : Obj), ks[i]? = some k → oin[i]? = some x → objs[k]? = some (x.ren f)
  | [], [], _ => ⟨rfl, fun i k x h => by simp at h⟩
  | k0 :: ks, x0 :: xs, h => by
    obtain ⟨h1, h2⟩ := h
    obtain ⟨k1, k2⟩ := inOk_get h2
    refine ⟨by simp [k1], fun i k x hk hx => ?_⟩
    cases i with
    | zero => simp at hk hx; subst hk; subst hx; exact h1
    | succ i => exact k2 i k x (by simpa using hk) (by simpa using hx)
  | [], _ :: _, h => h.elim
  | _ :: _, [], h => h.elim
def outOk (f : Nat → Nat) : List Obj → List Obj → Prop
  | [], [] => True
  | x :: xs, y :: ys => x.ren f = y ∧ outOk f xs ys
  | _, _ => False
theorem outOk_eq {f : Nat → Nat} : ∀ {xs ys : List Obj}, outOk f xs ys → xs.map (Obj.ren f) = ys
  | [], [], _ => rfl
  | x :: xs, y :: ys, h => by rw [List.map_cons, h.1, outOk_eq h.2]
  | [], _ :: _, h => h.elim
  | _ :: _, [], h => h.elim
def nodupB : List Nat → Bool
  | [] => true
  | k :: ks => !ks.contains k && nodupB ks
theorem nodupB_ok : ∀ {ks : List Nat}, nodupB ks = true → ks.Nodup
  | [], _ => List.nodup_nil
  | k :: ks, h => by
    simp only [nodupB, Bool.and_eq_true, Bool.not_eq_true', List.contains_eq_mem, decide_eq_false_iff_not] at h
    exact List.nodup_cons.2 ⟨h.1, nodupB_ok h.2⟩
def allLt (n : Nat) : List Nat → Bool
  | [] => true
  | k :: ks => Nat.blt k n && allLt n ks
theorem allLt_ok {n : Nat} : ∀ {ks : List Nat}, allLt n ks = true → ∀ k ∈ ks, k < n
  | k0 :: ks, h, k, hk => by
    simp only [allLt, Bool.and_eq_true] at h
    rcases List.mem_cons.1 hk with rfl | hk
    · exact Nat.le_of_ble_eq_true h.1
    · exact allLt_ok h.2 k hk

theorem ACall.leOb {P : Program} {f : Nat} {args : List AV} {objs objs' : List Obj} {R : AEnd → List Obj → Prop} (hl : objs'.length = objs.length) (hle : AM.leOb objs objs') (h : ACall P f args objs' R) : ACall P f args objs R := by
  intro G w vs hm hc
  refine h G w vs ⟨by rw [hm.len, hl], fun o x g hx hg => ?_, hm.inj, hm.lt, hm.immLt⟩ hc
  have hol : o < objs.length := by rw [← hl]; exact (List.getElem?_eq_some_iff.1 hx).1
  exact leOb1_ok ((leOb_get hle).2 o _ x (List.getElem?_eq_getElem hol) hx) (hm.ok o _ g (List.getElem?_eq_getElem hol) hg)

def pickO (ks : List Nat) (n : Nat) (l : List Obj) : List Obj := ks.map (fun k => l.getD k .dead) ++ l.drop n
theorem outOk_len {f : Nat → Nat} {ks : List Nat} {n : Nat} {oin o0 l : List Obj} {x : AV} (hlen : ks.length = oin.length) (h : outOk f o0 (pickO ks n l)) : ∀ (ae : AEnd) (o : List Obj), (ae = .ret x ∧ o = o0) → oin.length ≤ o.length := by
  rintro ae o ⟨_, rfl⟩
  have h1 := congrArg List.length (outOk_eq h)
  simp only [List.length_map, pickO, List.length_append] at h1
  omega
def callO {α β : Type} (_ks : List Nat) (_w : List Obj) (_enc : α → AV) (_ob : α → List Obj) (e : Option α) (m : α → Option β) : Option β := e.bind m

section
variable {P : Program} {β α : Type} {m : α → Option β} {Φ : β → Prop} {ops rest : List Oper} {K : AS → Prop} {E : AV → List Obj → Prop} {n d g : Nat} {o : List (Nat × AV)} {objs objs1 objs2 oin : List Obj} {ty : TypeId} {pos : String} {af : Array Edge} {gd : Option (Nat × Bool)}
  {cal : Operand} {args : Array Operand} {at' : Array TypeId} {first cap argsC : List AV} {e : Option α} {X : α → AV} {O : α → List Obj} {enc : α → AV} {ob : α → List Obj} {ks : List Nat}

theorem call_opO {o1 : List (Nat × AV)} (hc : evo n o1 cal = .fn g first cap) (hen : enters P g = true) (hf : ∀ r, e = some r → FunO P g argsC oin (X r) (O r))
    (hp : AV.pubL objs (first ++ args.toList.map (evo n o1) ++ cap) = objs1) (hw : leOb objs1 objs2) (hl : objs2.length = objs1.length)
    (hle : AV.leL (AV.stripL (first ++ args.toList.map (evo n o1) ++ cap)) (AV.renL (rn ks objs2.length) argsC)) (hn : nodupB ks = true) (hk : allLt objs2.length ks = true)
    (hin : inOk (rn ks objs2.length) objs2 ks oin) (ha : AV.idsLtL oin.length argsC = true) (hb : belowObjs oin.length oin = true)
    (hx : ∀ r, (X r).ren (rn ks objs2.length) = enc r) (hO : ∀ r, outOk (rn ks objs2.length) (O r) (pickO ks objs2.length (ob r))) (ho : ∀ r, mergeL ks objs2 (pickO ks objs2.length (ob r)) = ob r)
    {r : α} (hr : e = some r) : Eff P (.call ⟨.value cal, args, at'⟩) n o1 objs (enc r) (ob r) := by
  refine ⟨?_⟩
  intro p N E hp' hN
  unfold aop; rw [hp']; dsimp only
  have ee : (st n o1 objs).eval = evo n o1 := funext fun x => eval_st n o1 objs x
  rw [ee, hc]; dsimp only
  refine ⟨hen, ?_⟩
  refine ACall.strip ?_
  show ACall P g _ (AV.pubL objs _) _
  rw [hp]
  refine ACall.leOb hl hw (ACall.le hle ?_)
  obtain ⟨hlen, hget⟩ := inOk_get hin
  refine ((hf r hr).frameR (outOk_len hlen (hO r)) ks objs2 (nodupB_ok hn) (allLt_ok hk) hlen hget ha hb).mono ?_
  rintro ae oo ⟨ae0, o0, ⟨rfl, rfl⟩, rfl, rfl⟩
  show N _
  rw [outOk_eq (hO r), ho r, hx r]; exact hN

theorem M_callO (hg : gev n o ops gd = some true) (hc : evo n o cal = .fn g first cap) (hen : enters P g = true) (hf : ∀ r, e = some r → FunO P g argsC oin (X r) (O r))
    (hp : AV.pubL objs (first ++ args.toList.map (evo n o) ++ cap) = objs1) (hw : leOb objs1 objs2) (hl : objs2.length = objs1.length)
    (hle : AV.leL (AV.stripL (first ++ args.toList.map (evo n o) ++ cap)) (AV.renL (rn ks objs2.length) argsC)) (hn : nodupB ks = true) (hk : allLt objs2.length ks = true)
    (hin : inOk (rn ks objs2.length) objs2 ks oin) (ha : AV.idsLtL oin.length argsC = true) (hb : belowObjs oin.length oin = true)
    (hx : ∀ r, (X r).ren (rn ks objs2.length) = enc r) (hO : ∀ r, outOk (rn ks objs2.length) (O r) (pickO ks objs2.length (ob r))) (ho : ∀ r, mergeL ks objs2 (pickO ks objs2.length (ob r)) = ob r)
    (h : ∀ r, H (m r) Φ (rg .p P ops rest (st n (oc d (enc r) o) (ob r)) K E)) : H (callO ks objs2 enc ob e m) Φ (rg .p P ops (⟨some d, .call ⟨.value cal, args, at'⟩, ty, pos, af, gd⟩ :: rest) (st n o objs) K E) := by
  intro y hy hq
  unfold callO at hy
  cases he : e with
  | none => rw [he] at hy; cases hy
  | some r =>
    rw [he] at hy
    have hop := call_opO (at' := at') hc hen hf hp hw hl hle hn hk hin ha hb hx hO ho he
    cases gd with
    | none => exact S_e (v := enc r) (objs' := ob r) hop (h r) y hy hq
    | some jw =>
      obtain ⟨j, w⟩ := jw
      exact S_on (s' := st n (oc d (enc r) o) (ob r)) (j := j) (want := w) rfl (gcond_st rfl hg) rfl (fun N E hN => hop.run _ N E rfl hN) (h r) y hy hq
theorem M_callOC (hg : gev n (kst .c ops ⟨some d, .call ⟨.value cal, args, at'⟩, ty, pos, af, gd⟩ o) ops gd = some true) (hc : evo n (kst .c ops ⟨some d, .call ⟨.value cal, args, at'⟩, ty, pos, af, gd⟩ o) cal = .fn g first cap) (hen : enters P g = true) (hf : ∀ r, e = some r → FunO P g argsC oin (X r) (O r))
    (hp : AV.pubL objs (first ++ args.toList.map (evo n (kst .c ops ⟨some d, .call ⟨.value cal, args, at'⟩, ty, pos, af, gd⟩ o)) ++ cap) = objs1) (hw : leOb objs1 objs2) (hl : objs2.length = objs1.length)
    (hle : AV.leL (AV.stripL (first ++ args.toList.map (evo n (kst .c ops ⟨some d, .call ⟨.value cal, args, at'⟩, ty, pos, af, gd⟩ o)) ++ cap)) (AV.renL (rn ks objs2.length) argsC)) (hn : nodupB ks = true) (hk : allLt objs2.length ks = true)
    (hin : inOk (rn ks objs2.length) objs2 ks oin) (ha : AV.idsLtL oin.length argsC = true) (hb : belowObjs oin.length oin = true)
    (hx : ∀ r, (X r).ren (rn ks objs2.length) = enc r) (hO : ∀ r, outOk (rn ks objs2.length) (O r) (pickO ks objs2.length objs)) (ho : mergeL ks objs2 (pickO ks objs2.length objs) = objs)
    (h : ∀ r, H (m r) Φ (rg .c P ops rest (st n (oc d (rv .c gd (enc r)) o) objs) K E)) : H (callO ks objs2 enc ob e m) Φ (rg .c P ops (⟨some d, .call ⟨.value cal, args, at'⟩, ty, pos, af, gd⟩ :: rest) (st n o objs) K E) := by
  intro y hy hq
  unfold callO at hy
  cases he : e with
  | none => rw [he] at hy; cases hy
  | some r =>
    rw [he] at hy
    have hop := call_opO (ob := fun _ => objs) (at' := at') hc hen hf hp hw hl hle hn hk hin ha hb hx hO (fun _ => ho) he
    cases gd with
    | none => exact S_runC (s := st n o objs) (s1 := st n (kst .c ops ⟨some d, .call ⟨.value cal, args, at'⟩, ty, pos, af, none⟩ o) objs) (y := enc r) rfl rfl (keep_ov _ _ _ _) (fun N E hN => hop.run _ N E rfl hN) (h r) y hy hq
    | some jw =>
      obtain ⟨j, w⟩ := jw
      exact S_runCG (s := st n o objs) (s1 := st n (kst .c ops ⟨some d, .call ⟨.value cal, args, at'⟩, ty, pos, af, some (j, w)⟩ o) objs) (v := enc r) rfl rfl (keep_ov _ _ _ _) (gcond_st rfl hg) (.inl fun _ N E hN => hop.run _ N E rfl hN) (h r) y hy hq
end

/-! ### The tail of a drawn region -/
def tailM {β : Type} (_k : Nat) (m : Option β) : Option β := m
section
variable {P : Program} {n0 : Nat} {Q : AX → AS → Prop} {E : AV → List Obj → Prop} {β : Type} {m : Option β} {Φ : β → Prop} {s : AS}
theorem M_regT {id k : Nat} {l l1 l2 : List Oper} (e1 : P.follows .mixedOrders = true) (e2 : lexT l.toArray k = true) (h1 : l.take k = l1) (h2 : l.drop k = l2) (h : H m Φ (rg .c P l l1 s (fun s' => rg .p P l l2 s' (Q .normal) (fun _ _ => False)) E)) :
    H (tailM k m) Φ (awp P n0 (.region id l.toArray true) s Q E) := by
  subst h1; subst h2
  exact fun y hy hp => awp_regionT k e1 e2 (h y hy hp)
end
end Go.Proofs.YtcpjmkbcefmldaaGreatDoor.AM

/- Ranges over maps, for the models: whatever the order of the entries. -/
namespace Go.Proofs.YtcpjmkbcefmldaaGreatDoor.AM
open Go

def rngIter {σ ε β : Type} (step : σ → (ε → Option (σ ⊕ β)) × Option (σ ⊕ β)) : List ε → σ → Option β
  | [], q => (step q).2.bind (Sum.elim (fun _ => none) some)
  | e :: es, q => ((step q).1 e).bind (Sum.elim (rngIter step es) (fun _ => none))
def bareR {σ ε β : Type} (step : List Nat → Nat → List Nat → σ → (Nat → ε → Option (σ ⊕ β)) × Option (σ ⊕ β)) (q : σ) : (ε → Option (σ ⊕ β)) × Option (σ ⊕ β) := ((step [] 0 [] q).1 0, (step [] 0 [] q).2)
structure NoStamp {σ ε β : Type} (step : List Nat → Nat → List Nat → σ → (Nat → ε → Option (σ ⊕ β)) × Option (σ ⊕ β)) : Prop where
  one : ∀ zb zc zs zi q e, (step zb zc zs q).1 zi e = (step [] 0 [] q).1 0 e
  two : ∀ zb zc zs q, (step zb zc zs q).2 = (step [] 0 [] q).2
open Classical in
noncomputable def rangeM {σ ε β : Type} (_ph : σ → List (Nat × AV)) (_ob : List Nat → Nat → List Nat → σ → List Obj) (es : List ε) (step : List Nat → Nat → List Nat → σ → (Nat → ε → Option (σ ⊕ β)) × Option (σ ⊕ β)) (q : σ) : Option β :=
  if h : ∃ r, NoStamp step ∧ ∀ es' : List ε, es'.Perm es → rngIter (bareR step) es' q = some r then some (Classical.choose h) else none
theorem rangeM_spec {σ ε β : Type} {ph : σ → List (Nat × AV)} {ob : List Nat → Nat → List Nat → σ → List Obj} {es : List ε} {step : List Nat → Nat → List Nat → σ → (Nat → ε → Option (σ ⊕ β)) × Option (σ ⊕ β)} {q : σ} {r : β} (h : rangeM ph ob es step q = some r) :
    NoStamp step ∧ ∀ es' : List ε, es'.Perm es → rngIter (bareR step) es' q = some r := by
  unfold rangeM at h
  split at h
  · rename_i hx
    cases h
    exact Classical.choose_spec hx
  · cases h
theorem rangeM_eq {σ ε β : Type} {ph : σ → List (Nat × AV)} {ob : List Nat → Nat → List Nat → σ → List Obj} {es : List ε} {step : List Nat → Nat → List Nat → σ → (Nat → ε → Option (σ ⊕ β)) × Option (σ ⊕ β)} {q : σ} {r : β} (hs : NoStamp step) (h : ∀ es' : List ε, es'.Perm es → rngIter (bareR step) es' q = some r) :
    rangeM ph ob es step q = some r := by
  have hx : ∃ r, NoStamp step ∧ ∀ es' : List ε, es'.Perm es → rngIter (bareR step) es' q = some r := ⟨r, hs, h⟩
  unfold rangeM
  rw [dif_pos hx]
  have := (Classical.choose_spec hx).2 es (List.Perm.refl _)
  rw [h es (List.Perm.refl _)] at this
  exact this.symm

structure Stamps (bs : List Nat) (c n : Nat) : Prop where
  len : bs.length = n
  nodup : bs.Nodup
  lt : ∀ b ∈ bs, b < c

def rngM {σ ε β : Type} (p : (Nat → ε → Option (σ ⊕ β)) × Option (σ ⊕ β)) : Option ((Nat → ε → Option (σ ⊕ β)) × Option (σ ⊕ β)) := some p
structure PR {σ ε β : Type} (es : List ε) (bs seen : List Nat) (Ψ : Nat → σ → Prop) (Φ : β → Prop) (p : (Nat → ε → Option (σ ⊕ β)) × Option (σ ⊕ β)) : Prop where
  step : ∀ (i b : Nat) (e : ε), bs[i]? = some b → es[i]? = some e → b ∉ seen → ∃ z, p.1 b e = some z ∧ Sum.elim (Ψ b) (fun _ => False) z
  over : (∀ b ∈ bs, b ∈ seen) → ∃ z, p.2 = some z ∧ Sum.elim (fun _ => False) Φ z

section
variable {P : Program} {n0 n : Nat} {Q : AX → AS → Prop} {E : AV → List Obj → Prop} {σ ε β : Type} {Φ : β → Prop}
theorem R_range {ph : σ → List (Nat × AV)} {ob : List Nat → Nat → List Nat → σ → List Obj} {es : List ε} {step : List Nat → Nat → List Nat → σ → (Nat → ε → Option (σ ⊕ β)) × Option (σ ⊕ β)} {q0 : σ} {bs : List Nat} {cl : Nat} {c : Code} {s : AS} (hb : Stamps bs cl es.length)
    (hw : Weak n0 s ⟨ov n (ph q0), ob bs cl [] q0⟩)
    (h : ∀ (Ψ : Nat → σ → Prop) (I : Nat → AS → Prop) (kk : Nat) (q : σ) (seen : List Nat), (∀ b, b ∈ bs → b ∉ seen → ∀ x', Ψ b x' → ∀ s', Weak n0 s' ⟨ov n (ph x'), ob bs cl (seen ++ [b]) x'⟩ → loopQ n0 I kk Q .normal s') →
      H (rngM (step bs cl seen q)) (fun p => PR es bs seen Ψ Φ p) (awp P n0 c ⟨ov n (ph q), ob bs cl seen q⟩ (loopQ n0 I kk Q) E)) :
    H (rangeM ph ob es step q0) Φ (awp P n0 (.loop c) s Q E) := by
  intro y hy hp
  obtain ⟨hns, hall⟩ := rangeM_spec hy
  -- stamps and entries
  let zs : List (Nat × ε) := bs.zip es
  have hz1 : zs.map (·.1) = bs := by
    show (bs.zip es).map Prod.fst = bs
    rw [List.map_fst_zip (by rw [hb.len]; exact Nat.le_refl _)]
  have hz2 : zs.map (·.2) = es := by
    show (bs.zip es).map Prod.snd = es
    rw [List.map_snd_zip (by rw [hb.len]; exact Nat.le_refl _)]
  let Inv : List Nat → σ → Prop := fun seen q => ∃ sp : List (Nat × ε), sp.map (·.1) = seen ∧ (∃ rest, (sp ++ rest).Perm zs) ∧ ∀ rest, (sp ++ rest).Perm zs → rngIter (bareR step) (rest.map (·.2)) q = some y
  refine ⟨fun m s' => ∃ seen q, Inv seen q ∧ m = zs.length - seen.length ∧ s' = ⟨ov n (ph q), ob bs cl seen q⟩, ⟨_, _, hw, [], q0, ⟨[], rfl, ⟨zs, List.Perm.refl _⟩, fun rest hr => ?_⟩, rfl, rfl⟩, ?_⟩
  · refine hall _ ?_
    rw [← hz2]
    exact List.Perm.map _ (by simpa using hr)
  · rintro m s' ⟨seen, q, ⟨sp, hsp, ⟨rest0, hr0⟩, hI⟩, rfl, rfl⟩
    have hseen : ∀ b ∈ seen, b ∈ bs := by
      intro b hb'
      rw [← hsp] at hb'
      obtain ⟨p, hp', rfl⟩ := List.mem_map.1 hb'
      have : p ∈ zs := hr0.mem_iff.1 (List.mem_append_left _ hp')
      rw [← hz1]; exact List.mem_map_of_mem this
    refine h (fun b q' => Inv (seen ++ [b]) q' ∧ b ∈ bs ∧ b ∉ seen) (fun m s' => ∃ seen q, Inv seen q ∧ m = zs.length - seen.length ∧ s' = ⟨ov n (ph q), ob bs cl seen q⟩) _ q seen ?_ (step bs cl seen q) rfl ⟨?_, ?_⟩
    · rintro b hb1 hb2 x' ⟨hx, _, _⟩ s' hw'
      refine ⟨_, _, hw', ?_, seen ++ [b], x', hx, rfl, rfl⟩
      -- there is one more than was seen
      obtain ⟨sp', hsp', ⟨r', hr'⟩, _⟩ := hx
      have h1 := hr'.length_eq
      have h2 : sp'.length = (seen ++ [b]).length := by rw [← hsp']; simp
      simp only [List.length_append, List.length_cons, List.length_nil] at h1 h2 ⊢
      omega
    · intro i b e hib hie hbs
      have hmem : (b, e) ∈ zs := by
        have : zs[i]? = some (b, e) := by
          show (bs.zip es)[i]? = _
          rw [List.getElem?_zip_eq_some]; exact ⟨hib, hie⟩
        exact List.mem_of_getElem? this
      have hmr : (b, e) ∈ rest0 := by
        rcases List.mem_append.1 (hr0.mem_iff.2 hmem) with h | h
        · exact absurd (by rw [← hsp]; exact List.mem_map_of_mem h) hbs
        · exact h
      obtain ⟨r1, r2, hr⟩ := List.append_of_mem hmr
      have hp1 : (sp ++ (b, e) :: (r1 ++ r2)).Perm zs := by
        refine List.Perm.trans ?_ hr0
        rw [hr]
        exact List.Perm.append_left sp (List.perm_middle).symm
      have h1 := hI _ hp1
      simp only [List.map_cons, rngIter, bareR] at h1
      rw [hns.one bs cl seen b q e]
      cases hz : (step [] 0 [] q).1 0 e with
      | none => rw [hz] at h1; cases h1
      | some z =>
        rw [hz] at h1
        cases z with
        | inr r => simp at h1
        | inl q' =>
          refine ⟨.inl q', rfl, ⟨sp ++ [(b, e)], by simp [hsp], ⟨r1 ++ r2, by simpa using hp1⟩, fun rest hrest => ?_⟩, List.mem_of_getElem? hib, hbs⟩
          have h2 := hI ((b, e) :: rest) (by simpa using hrest)
          simp only [List.map_cons, rngIter, bareR, hz] at h2
          simpa using h2
    · intro hover
      have hrest : rest0 = [] := by
        cases rest0 with
        | nil => rfl
        | cons p r =>
          exfalso
          have hpz : p ∈ zs := hr0.mem_iff.1 (by simp)
          have hpb : p.1 ∈ bs := by rw [← hz1]; exact List.mem_map_of_mem hpz
          have hps := hover _ hpb
          have hnd : ((sp ++ p :: r).map (·.1)).Nodup := by
            have := (List.Perm.map (·.1) hr0).nodup_iff.2 (by rw [hz1]; exact hb.nodup)
            exact this
          rw [List.map_append, List.map_cons] at hnd
          have := (List.nodup_append.1 hnd).2.2 p.1 (by rw [hsp]; exact hps) p.1 (by simp)
          exact this rfl
      subst hrest
      have h1 := hI [] hr0
      simp only [List.map_nil, rngIter, bareR] at h1
      rw [hns.two bs cl seen q]
      cases hz : (step [] 0 [] q).2 with
      | none => rw [hz] at h1; cases h1
      | some z =>
        rw [hz] at h1
        cases z with
        | inl q' => simp at h1
        | inr r =>
          simp at h1
          subst h1
          exact ⟨_, rfl, hp⟩
end

section
variable {P : Program} {β : Type} {m : Option β} {Φ : β → Prop} {ops rest : List Oper} {K : AS → Prop} {E : AV → List Obj → Prop} {n d : Nat} {o : List (Nat × AV)} {objs : List Obj} {ty t : TypeId} {pos : String} {af : Array Edge} {x : Operand}
theorem M_range {κ α : Type} {kv : κ → Value} {av : α → AV} {es : List (κ × α)} {i : TI} {kt et : TypeId} {k kk : Nat} {ob : List Nat → Nat → List Obj} (ht : ti P t = some i) (hd : i.desc = .map kt et) (hx : evo n o x = .map k) (ho : objs[k]? = some (.map (mp kv av es))) (hk : objs.length = kk)
    (hob : ∀ bs cl, objs.set k (.mapB bs cl (mp kv av es)) ++ [.iter k cl []] = ob bs cl)
    (h : ∀ bs cl, Stamps bs cl es.length → H m Φ (rg .p P ops rest (st n (oc d (.ptr kk 0) o) (ob bs cl)) K E)) : H m Φ (rg .p P ops (⟨some d, .range t x, ty, pos, af, none⟩ :: rest) (st n o objs) K E) := by
  intro y hy hp
  show aops P ops (_ :: rest) (st n o objs) K E
  simp only [aops, guardAV]
  unfold aop; dsimp only
  have ee : (st n o objs).eval x = .map k := by rw [show (st n o objs).eval x = evo n o x from eval_st n o objs x]; exact hx
  rw [ee]
  have hspec := ht
  unfold rangeAV
  simp only [hspec, hd, ho]
  intro bs cl h1 h2 h3
  rw [hob bs cl, hk]
  have := h bs cl ⟨by rw [h1]; simp [mp], h2, h3⟩ y hy hp
  rw [show AS.put (st n o objs) (some d) (.ptr kk 0) = st n (oc d (.ptr kk 0) o) objs from put_ov n o objs d _]
  exact this
theorem M_next {n0 : Nat} {Q : AX → AS → Prop} {I : Nat → AS → Prop} {kk : Nat} {σ κ α : Type} {kv : κ → Value} {av : α → AV} {es : List (κ × α)} {step : (Nat → (κ × α) → Option (σ ⊕ β)) × Option (σ ⊕ β)} {bs seen : List Nat} {cl k mi : Nat} {Ψ : Nat → σ → Prop} {ph : σ → List (Nat × AV)} {ob : Nat → σ → List Obj} {ob2 : Nat → List Obj}
    (hx : evo n o x = .ptr k 0) (hi : objs[k]? = some (.iter mi cl seen)) (hm : objs[mi]? = some (.mapB bs cl (mp kv av es)))
    (hN : ∀ b, b ∈ bs → b ∉ seen → ∀ x', Ψ b x' → ∀ s', Weak n0 s' ⟨ov n (ph x'), ob b x'⟩ → loopQ n0 I kk Q .normal s')
    (ho : ∀ b, objs.set k (.iter mi cl (seen ++ [b])) = ob2 b)
    (h1 : ∀ (i b : Nat) (e : κ × α), bs[i]? = some b → es[i]? = some e → (∀ x', Ψ b x' → ∀ s', Weak n0 s' ⟨ov n (ph x'), ob b x'⟩ → loopQ n0 I kk Q .normal s') →
      H (step.1 b e) (Sum.elim (Ψ b) (fun _ => False)) (rg .p P ops rest (st n (oc d (.tup [.v (.bool true), AV.ofValue (kv e.1), av e.2]) o) (ob2 b)) K E))
    (h2 : H step.2 (Sum.elim (fun _ => False) Φ) (rg .p P ops rest (st n (oc d (.tup [.v (.bool false)]) o) objs) K E)) :
    H (rngM step) (fun p => PR es bs seen Ψ Φ p) (rg .p P ops (⟨some d, .next x false, ty, pos, af, none⟩ :: rest) (st n o objs) K E) := by
  intro y hy hp
  cases hy
  show aops P ops (_ :: rest) (st n o objs) K E
  simp only [aops, guardAV]
  unfold aop; dsimp only
  have ee : (st n o objs).eval x = .ptr k 0 := by rw [show (st n o objs).eval x = evo n o x from eval_st n o objs x]; exact hx
  rw [ee]
  unfold nextAV
  simp only [hi, hm]
  refine ⟨trivial, trivial, fun hover => ?_, fun i b p hib hie hbs => ?_⟩
  · obtain ⟨z, hz, hq⟩ := hp.over hover
    rw [show AS.put (st n o objs) (some d) (.tup [.v (.bool false)]) = st n (oc d (.tup [.v (.bool false)]) o) objs from put_ov n o objs d _]
    exact h2 z hz hq
  · rw [mp, List.getElem?_map] at hie
    cases he : es[i]? with
    | none => rw [he] at hie; cases hie
    | some e =>
      rw [he] at hie
      cases hie
      obtain ⟨z, hz, hq⟩ := hp.step i b e hib he hbs
      have := h1 i b e hib he (hN b (List.mem_of_getElem? hib) hbs) z hz hq
      rw [show AS.put (st n o objs) (some d) (.tup [.v (.bool true), AV.ofValue (kv e.1), av e.2]) = st n (oc d (.tup [.v (.bool true), AV.ofValue (kv e.1), av e.2]) o) objs from put_ov n o objs d _, ho b]
      exact this
theorem V_entry {κ α : Type} {kv : κ → Value} {av : α → AV} {es : List (κ × α)} {bs seen : List Nat} {cl k mi i b : Nat} {e : κ × α} (hx : evo n o x = .ptr k 0) (hi : objs[k]? = some (.iter mi cl (seen ++ [b]))) (hm : objs[mi]? = some (.mapB bs cl (mp kv av es)))
    (h1 : bs[i]? = some b) (h2 : es[i]? = some e) : Val P (.entry x) n o objs (.tup [AV.ofValue (kv e.1), av e.2]) := by
  refine ⟨?_⟩
  intro p N E hp hN
  unfold aop; rw [hp]; dsimp only
  have ee : (st n o objs).eval x = .ptr k 0 := by rw [show (st n o objs).eval x = evo n o x from eval_st n o objs x]; exact hx
  rw [ee]
  unfold entryAV
  simp only [hi, hm]
  refine ⟨trivial, seen, i, b, (kv e.1, av e.2), rfl, h1, ?_, hN⟩
  rw [mp, List.getElem?_map, h2]; rfl
theorem V_ixg {y : Operand} {α : Type} {en : α → AV} {l : List α} {i j : TI} {len : Nat} {e : TypeId} {q : IntKind} {k : Int} {r : α} (ht : ti P t = some i) (hd : i.desc = .array len e) (hj : ti P e = some j) (ha : j.isAgg = false) (hs : j.size = 1) (hx : evo n o x = .agg (l.map en)) (hln : l.length = len) (hy : evo n o y = .v (.int q k)) (h0 : 0 ≤ k) (hr : l[k.toNat]? = some r) :
    Val P (.index t x y) n o objs (en r) := by
  have hk : k.toNat < l.length := (List.getElem?_eq_some_iff.1 hr).1
  refine ⟨?_⟩
  intro p N E hp hN
  unfold aop; rw [hp]; dsimp only
  have ee : (st n o objs).eval = evo n o := funext fun x => eval_st n o objs x
  rw [ee, hx, hy]
  unfold indexAV
  simp only [ht, hd, hj]
  refine ⟨h0, by omega, ?_⟩
  unfold partAV
  refine ⟨by rw [List.length_map, hs]; omega, ?_⟩
  rw [if_neg (by simp [ha])]
  refine ⟨by omega, ?_⟩
  rw [hs, Nat.mul_one, List.getD_eq_getElem?_getD, List.getElem?_map, hr]
  exact hN
end

/-! ### What is forgotten between two statements -/
def forgM {β : Type} (_id : Nat) (_ph : List (Nat × AV)) (_ob : List Obj) (m : Option β) : Option β := m
section
variable {P : Program} {n0 n k : Nat} {Q Q1 : AX → AS → Prop} {E : AV → List Obj → Prop} {β : Type} {m : Option β} {Φ : β → Prop} {s : AS} {ph : List (Nat × AV)} {ob : List Obj} {id : Nat} {ops : Array Oper} {dr : Bool} {c : Code}
theorem R_forgS (hw : Weak n0 s ⟨ov n ph, ob⟩) (h : H m Φ (seqQ n0 (fun s' => awp P n0 (.seq (.region id ops dr) c) s' Q1 E) Q .normal ⟨ov n ph, ob⟩)) : H (forgM id ph ob m) Φ (seqQ n0 (fun s' => awp P n0 (.seq (.region id ops dr) c) s' Q1 E) Q .normal s) := by
  intro y hy hp
  exact WeakS.pre hw (h y hy hp)
end
end Go.Proofs.YtcpjmkbcefmldaaGreatDoor.AM

/- Builders, and texts laid behind octets, for the models. -/
namespace Go.Proofs.YtcpjmkbcefmldaaGreatDoor.AM
open Go

def octs (s : Str) : List Int := s.map fun b => (b.toNat : Int)
theorem octs_length (s : Str) : (octs s).length = s.length := by simp [octs]
theorem octs_enc (s : Str) : encB s = (octs s).map (cK .u8) := by simp [encB, octs, cK, Function.comp_def]
theorem strOf_octs (s : Str) : strOf (octs s) = s := by
  simp only [strOf, octs, List.map_map]
  conv => rhs; rw [← List.map_id s]
  refine List.map_congr_left fun b _ => ?_
  simp
section
variable {P : Program} {n : Nat} {o : List (Nat × AV)} {objs objs' : List Obj} {x y : Operand} {t xt : TypeId}
theorem E_bldN {e b : TypeId} {i : TI} {k k1 : Nat} (ht : ti P e = some i) (hz : i.zero = [.pointer none, .slice none 0 0]) (hk : objs.length = k) (hk1 : objs.length + 1 = k1) (ho : objs ++ [.bld e (.sl [] (.own k1)), .tok 0 1 b true] = objs') :
    Eff P (.alloc e) n o objs (.ptr k 0) objs' := by
  subst ho; subst hk; subst hk1
  refine ⟨?_⟩; intro p N E hp hN; unfold aop; rw [hp]; dsimp only; rw [ht]; exact .inr ⟨hz, b, hN⟩
theorem V_ldB {i : TI} {k e : Nat} {buf : AV} (ht : ti P t = some i) (ha : i.isAgg = false) (hs : i.size = 1) (hx : evo n o x = .ptr k 1) (ho : objs[k]? = some (.bld e buf)) : Val P (.load t x) n o objs buf := by
  refine ⟨?_⟩; intro p N E hp hN; unfold aop; rw [hp]; dsimp only; rw [eval_st, hx]; unfold loadAV; rw [ht]; dsimp only [st]; rw [ho]; exact ⟨rfl, ha, hs, hN⟩
theorem E_stB {i : TI} {k e : Nat} {buf z : AV} (ht : ti P t = some i) (hs : i.size = 1) (hx : evo n o x = .ptr k 1) (hy : cellsAV (evo n o y) = some [z]) (ho : objs[k]? = some (.bld e buf)) (ho' : objs.set k (.bld e z) = objs') : Eff P (.store t x y) n o objs .any objs' := by
  subst ho'
  refine ⟨?_⟩; intro p N E hp hN; unfold aop; rw [hp]; dsimp only; rw [eval_st, eval_st, hx]; unfold storeAV; rw [ht, hy]; dsimp only [st]; rw [ho]; exact ⟨rfl, hs, rfl, hN⟩
section
variable {i j xi : TI} {e : TypeId} {l : List Int} {a : Str} (ht : ti P t = some i) (hd : i.desc = .slice e) (hj : ti P e = some j) (h0 : 0 < j.size ∧ 0 < j.bytes) (hs : j.size = 1) (hxt : ti P xt = some xi) (hxd : isStrD xi.desc = true) (hy : evo n o y = .v (.string (bs a)))
include ht hd hj h0 hs hxt hxd hy
theorem app_str : appRows P t xt e (evo n o y) = some ((octs a).map (cK .u8)) ∧ ∀ r ∈ (octs a).map (cK .u8), r.length = j.size := by
  rw [hy]
  refine ⟨?_, fun r hr => ?_⟩
  · rw [← octs_enc]
    unfold appRows; dsimp only
    rw [hxt, hj, if_pos ⟨by simp [hxd], by simp [hs]⟩]
    rfl
  · obtain ⟨q, _, rfl⟩ := List.mem_map.1 hr; rw [hs]; rfl
theorem E_aps0 {k : Nat} (hx : evo n o x = .v (.slice none 0 0)) (hb : (octs a).length * j.bytes ≤ 140737488355328) (hk : objs.length = k) (ho : objs ++ [.tok (octs a).length j.size e true] = objs') :
    Eff P (.call ⟨.builtin .append, #[x, y], #[t, xt]⟩) n o objs (.sl ((octs a).map (cK .u8)) (.own k)) objs' := by
  subst hk; subst ho
  refine ⟨?_⟩; intro p N E hp hN; unfold aop; rw [hp]; dsimp only [List.map, Array.toList]; rw [eval_st, eval_st, hx]
  obtain ⟨k1, k2⟩ := app_str (n := n) (o := o) ht hd hj h0 hs hxt hxd hy
  unfold builtinAV; dsimp only; unfold appendAV; rw [ht]; dsimp only; rw [hd]; dsimp only; rw [hj]; dsimp only; rw [k1]; dsimp only
  refine ⟨h0.1, h0.2, k2, by rw [List.length_map]; exact hb, ?_⟩
  rw [List.length_map]; exact hN
theorem E_apsx {k : Nat} (hx : evo n o x = .sl (l.map (cK .u8)) .exact) (hpos : 0 < l.length + (octs a).length) (hb : (l.length + (octs a).length) * j.bytes ≤ 140737488355328) (hk : objs.length = k) (ho : objs ++ [.tok (l ++ octs a).length j.size e l.isEmpty] = objs') :
    Eff P (.call ⟨.builtin .append, #[x, y], #[t, xt]⟩) n o objs (.sl ((l ++ octs a).map (cK .u8)) (.own k)) objs' := by
  subst hk; subst ho
  refine ⟨?_⟩; intro p N E hp hN; unfold aop; rw [hp]; dsimp only [List.map, Array.toList]; rw [eval_st, eval_st, hx]
  obtain ⟨k1, k2⟩ := app_str (n := n) (o := o) ht hd hj h0 hs hxt hxd hy
  unfold builtinAV; dsimp only; unfold appendAV; rw [ht]; dsimp only; rw [hd]; dsimp only; rw [hj]; dsimp only; rw [k1]; dsimp only
  refine ⟨h0.1, h0.2, k2, by rw [List.length_map, List.length_map]; exact hpos, fun r hr => ?_, by rw [List.length_map, List.length_map]; exact hb, ?_⟩
  · obtain ⟨q, _, rfl⟩ := List.mem_map.1 hr; rw [hs]; rfl
  · have he : (l.map (cK .u8)).isEmpty = l.isEmpty := by cases l <;> rfl
    rw [List.length_map, List.length_map, ← List.map_append, ← List.length_append, he]; exact hN
theorem E_apso {k : Nat} {ex : Bool} {len : Nat} (hx : evo n o x = .sl (l.map (cK .u8)) (.own k)) (ho : objs[k]? = some (.tok len j.size e ex)) (hln : len = l.length) (hb : (l.length + (octs a).length) * j.bytes ≤ 140737488355328) (ho' : objs.set k (.tok (l ++ octs a).length j.size e ex) = objs') :
    Eff P (.call ⟨.builtin .append, #[x, y], #[t, xt]⟩) n o objs (.sl ((l ++ octs a).map (cK .u8)) (.own k)) objs' := by
  subst ho'
  refine ⟨?_⟩; intro p N E hp hN; unfold aop; rw [hp]; dsimp only [List.map, Array.toList]; rw [eval_st, eval_st, hx]
  obtain ⟨k1, k2⟩ := app_str (n := n) (o := o) ht hd hj h0 hs hxt hxd hy
  unfold builtinAV; dsimp only; unfold appendAV; rw [ht]; dsimp only; rw [hd]; dsimp only; rw [hj]; dsimp only; rw [k1]; dsimp only; rw [ho]
  refine ⟨h0.1, h0.2, k2, by rw [List.length_map]; exact hln, rfl, rfl, fun r hr => ?_, by rw [List.length_map, List.length_map]; exact hb, ?_⟩
  · obtain ⟨q, _, rfl⟩ := List.mem_map.1 hr; rw [hs]; rfl
  · rw [List.length_map, List.length_map, ← List.map_append, ← List.length_append]; exact hN
end
end
end Go.Proofs.YtcpjmkbcefmldaaGreatDoor.AM

/- What the walks of functions that are handed objects lean on. -/
namespace Go.Proofs.YtcpjmkbcefmldaaGreatDoor.AM
open Go

def vNI (_ : Unit) : AV := .v .nilIface
section
variable {κ α : Type} {kv : κ → Value} {av : α → AV} {es : List (κ × α)} {f : Nat → Nat}
theorem mp_ren (h : ∀ a, (av a).ren f = av a) : (Obj.map (mp kv av es)).ren f = .map (mp kv av es) := by
  simp only [Obj.ren, mp, List.map_map]
  congr 1
  refine List.map_congr_left fun e _ => ?_
  simp [h]
theorem mp_in {o : Option Obj} (e : o = some (.map (mp kv av es))) (h : ∀ a, (av a).ren f = av a) : o = some ((Obj.map (mp kv av es)).ren f) := by rw [mp_ren h]; exact e
end
theorem ofD_ren (f : Nat → Nat) : ∀ d : D, (AV.ofD d).ren f = .ofD d
  | .v _ => rfl
  | .sl _ => rfl
theorem renL_ofD (f : Nat → Nat) : ∀ l : List D, AV.renL f (l.map .ofD) = l.map .ofD
  | [] => rfl
  | d :: l => by simp [AV.renL, ofD_ren, renL_ofD f l]
theorem rc_ren {rows : List (List D)} {f : Nat → Nat} : (Obj.box (rowCells rows)).ren f = .box (rowCells rows) := by
  simp only [Obj.ren, rowCells, renL_ofD]
theorem rc_in {o : Option Obj} {rows : List (List D)} {f : Nat → Nat} (e : o = some (.box (rowCells rows))) : o = some ((Obj.box (rowCells rows)).ren f) := by rw [rc_ren]; exact e

def noM {β : Type} : Option β := none
theorem H_noM {β : Type} {Φ : β → Prop} {G : Prop} : H (noM : Option β) Φ G := fun _ h _ => by cases h
def bldCheck (_l : List Int) : Option Unit := some ()
def bldStr (l : List Int) : Option Str := gdM (∀ x ∈ l, 0 ≤ x ∧ x < 256) (retM (strOf l))
section
variable {P : Program} {n : Nat} {o : List (Nat × AV)} {objs : List Obj} {x y : Operand} {t : TypeId} {κ α : Type} [DecidableEq κ] {kv : κ → Value} {av : α → AV} {es : List (κ × α)} {i ki : TI} {kt et : TypeId} {k : Nat} {key : κ} {zl : List Value}
  (ht : ti P t = some i) (hd : i.desc = .map kt et) (hk : ti P kt = some ki) (hx : evo n o x = .map k) (ho : objs[k]? = some (.map (mp kv av es))) (hq : KeyOk kv ki.desc) (hy : evo n o y = .v (kv key))
theorem ofValue_agg (h1 : zl.all (·.oneCell') = true) : AV.ofValue (.agg zl.toArray) = .agg (zl.map .v) := by
  simp only [AV.ofValue]
  rw [if_pos (by simpa using h1)]
include ht hd hk hx ho hq hy
theorem V_lkNA (hz : (P.info? et).bind (·.zero) = some (.agg zl.toArray)) (h1 : zl.all (·.oneCell') = true) (hl : mlk es key = none) : Val P (.lookup t x y true) n o objs (.tup [.agg (zl.map .v), .v (.bool false)]) := by
  have := V_lkN ht hd hk hx ho hq hy hz hl
  rw [ofValue_agg h1] at this; exact this
theorem V_lkN1A (hz : (P.info? et).bind (·.zero) = some (.agg zl.toArray)) (h1 : zl.all (·.oneCell') = true) (hl : mlk es key = none) : Val P (.lookup t x y false) n o objs (.agg (zl.map .v)) := by
  have := V_lkN1 ht hd hk hx ho hq hy hz hl
  rw [ofValue_agg h1] at this; exact this
end
def shOk (n : Nat) : List Obj → List Obj → Prop
  | [], [] => True
  | x :: xs, y :: ys => x.shift n = y ∧ shOk n xs ys
  | _, _ => False
theorem shOk_eq {n : Nat} : ∀ {xs ys : List Obj}, shOk n xs ys → xs.map (Obj.shift n) = ys
  | [], [], _ => rfl
  | x :: xs, y :: ys, h => by rw [List.map_cons, h.1, shOk_eq h.2]
  | [], _ :: _, h => h.elim
  | _ :: _, [], h => h.elim
theorem ho_of {l xs ys : List Obj} {n : Nat} (h : shOk n xs (ys.drop l.length)) (e : l ++ ys.drop l.length = ys) : l ++ xs.map (Obj.shift n) = ys := by rw [shOk_eq h, e]
theorem mp_shift {κ α : Type} {kv : κ → Value} {av : α → AV} {es : List (κ × α)} {n : Nat} (h : ∀ a, (av a).shift n = av a) : (Obj.map (mp kv av es)).shift n = .map (mp kv av es) := by
  simp only [Obj.shift, mp, List.map_map]
  congr 1
  refine List.map_congr_left fun e _ => ?_
  simp [h]
def bldM {β : Type} (_b : Nat) (m : Option β) : Option β := m
section
variable {P : Program} {β : Type} {m : Option β} {Φ : β → Prop} {ops rest : List Oper} {K : AS → Prop} {E : AV → List Obj → Prop} {n d : Nat} {o : List (Nat × AV)} {objs objs' : List Obj} {ty : TypeId} {pos : String} {af : Array Edge}
theorem M_bld {e b : TypeId} {i : TI} {k k1 : Nat} (ht : ti P e = some i) (hz : i.zero = [.pointer none, .slice none 0 0]) (hk : objs.length = k) (hk1 : objs.length + 1 = k1) (ho : objs ++ [.bld e (.sl [] (.own k1)), .tok 0 1 b true] = objs')
    (h : H m Φ (rg .p P ops rest (st n (oc d (.ptr k 0) o) objs') K E)) : H (bldM b m) Φ (rg .p P ops (⟨some d, .alloc e, ty, pos, af, none⟩ :: rest) (st n o objs) K E) :=
  fun y hy hp => S_e (E_bldN ht hz hk hk1 ho) h y hy hp
end
end Go.Proofs.YtcpjmkbcefmldaaGreatDoor.AM

/- A new variable in a drawn region, for the models. -/
namespace Go.Proofs.YtcpjmkbcefmldaaGreatDoor.AM
open Go

theorem aopsC_M {P : Program} {ops : Array Oper} {a : Nat} {cells : List AV} {rest : List Oper} {K : AS → Prop} : ∀ (l : List Oper) (k : Nat) (s : AS), (∀ j, j < l.length → k + j ≠ a) →
    aopsC P ops l s (fun s1 => aopsM P ops a cells rest (k + l.length) s1 K) → aopsM P ops a cells (l ++ rest) k s K
  | [], k, s, _, h => h
  | o :: l, k, s, ha, h => by
    obtain ⟨y, hy, h⟩ := h
    rw [List.cons_append]
    unfold aopsM
    rw [if_neg (by have := ha 0 (by simp); simpa using this)]
    refine ⟨y, hy, aopsC_M l (k + 1) _ (fun j hj => by have := ha (j + 1) (by simp; omega); omega) ?_⟩
    rw [show k + 1 + l.length = k + (o :: l).length from by simp; omega]
    exact h
theorem aopsC_mono {P : Program} {ops : Array Oper} {K K' : AS → Prop} (hK : ∀ s, K s → K' s) : ∀ (l : List Oper) (s : AS), aopsC P ops l s K → aopsC P ops l s K'
  | [], s, h => hK s h
  | o :: l, s, ⟨y, h1, h2⟩ => ⟨y, h1, aopsC_mono hK l _ h2⟩

def appO (s : AS) (b : Obj) : AS := ⟨s.tmps, s.objs ++ [b]⟩
def tailA {β : Type} (_k _a _d : Nat) (m : Option β) : Option β := m
section
variable {P : Program} {n0 n : Nat} {Q : AX → AS → Prop} {E : AV → List Obj → Prop} {β : Type} {m : Option β} {Φ : β → Prop} {o : List (Nat × AV)} {objs : List Obj}
theorem M_regA {id k a d0 : Nat} {l pre1 pre2 tl : List Oper} {e ty : TypeId} {pos : String} {af : Array Edge} {i : TI} {cells : List AV} (e1 : P.follows .mixedOrders = true) (e2 : lexA l.toArray k a d0 n = true)
    (h1 : l.take a = pre1) (ha : l[a]? = some ⟨some d0, .alloc e, ty, pos, af, none⟩) (h2 : (l.take k).drop (a + 1) = pre2) (h3 : l.drop k = tl) (hb : belowObjs objs.length objs = true) (hids : idsO objs.length o = true) (ht : ti P e = some i) (hz : i.zero.map .v = cells)
    (h : H m Φ (rg .c P l pre1 (st n o objs) (fun s1 => rg .c P l pre2 (s1.put (some d0) (.ptr s1.objs.length 0)) (fun s2 => AV.idsLtL objs.length (s2.tmps.set d0 .any) = true ∧ rg .p P l tl (appO s2 (.box cells)) (Q .normal) (fun _ _ => False)) E) E)) :
    H (tailA k a d0 m) Φ (awp P n0 (.region id l.toArray true) (st n o objs) Q E) := by
  intro y hy hp
  have hh := h y hy hp
  refine awp_regionA e1 ⟨k, a, d0, cells, by rw [show (st n o objs).tmps.length = n from ov_length n o]; exact e2, hb, idsO_L hids, ?_⟩
  have e2' := e2
  simp only [lexA, Bool.and_eq_true] at e2'
  have hak : a < k := Nat.le_of_ble_eq_true e2'.1.1.1.1.2
  have hkl : k ≤ l.length := by have := Nat.le_of_ble_eq_true e2'.1.1.1.1.1; simpa using this
  have hpl : pre1.length = a := by rw [← h1]; simp; omega
  have hsplit : l.toArray.toList.take k = pre1 ++ ⟨some d0, .alloc e, ty, pos, af, none⟩ :: pre2 := by
    show l.take k = _
    rw [← h1, ← h2]
    have e3 : (l.take k).take a = l.take a := by rw [List.take_take]; congr 1; omega
    have e4 : (l.take k)[a]? = some ⟨some d0, .alloc e, ty, pos, af, none⟩ := by rw [List.getElem?_take, if_pos hak]; exact ha
    rw [← e3]
    have := List.take_append_drop a (l.take k)
    conv => lhs; rw [← this]
    congr 1
    obtain ⟨hlt, hget⟩ := List.getElem?_eq_some_iff.1 e4
    rw [List.drop_eq_getElem_cons hlt, hget]
  rw [hsplit]
  refine aopsC_M pre1 0 _ (fun j hj => by omega) ?_
  refine aopsC_mono ?_ pre1 _ hh
  intro s1 hs1
  unfold aopsM
  rw [if_pos (by omega)]
  refine ⟨.ptr s1.objs.length 0, ⟨rfl, ?_⟩, ?_⟩
  · unfold aop; dsimp only
    rw [ht]
    subst hz
    exact .inl rfl
  · rw [← List.append_nil pre2]
    refine aopsC_M pre2 _ _ (fun j hj => by omega) ?_
    refine aopsC_mono ?_ pre2 _ hs1
    intro s2 hs2
    unfold aopsM
    subst h3
    exact hs2
theorem M_alst {ops l : List Oper} {K : AS → Prop} {d k : Nat} (hk : objs.length = k) (h : H m Φ (rg .c P ops l (st n (oc d (.ptr k 0) o) objs) K E)) : H m Φ (rg .c P ops l (AS.put (st n o objs) (some d) (.ptr (AS.objs (st n o objs)).length 0)) K E) := by
  subst hk
  rw [show AS.put (st n o objs) (some d) (.ptr (AS.objs (st n o objs)).length 0) = st n (oc d (.ptr objs.length 0) o) objs from put_ov n o objs d _]
  exact h
theorem M_ids {k d0 : Nat} {B : Prop} (h1 : idsO k (ofil (fun d => decide (d = d0)) o) = true) (h : H m Φ B) : H m Φ (AV.idsLtL k ((AS.tmps (st n o objs)).set d0 .any) = true ∧ B) := by
  intro y hy hp
  refine ⟨?_, h y hy hp⟩
  have h2 := idsO_one (n := n) h1
  have e : (AS.tmps (st n o objs)).set d0 .any = ov n (oc d0 .any o) := congrArg AS.tmps (put_ov n o objs d0 .any)
  rw [e]; exact h2
theorem M_apst {ops l : List Oper} {K : AS → Prop} {b : Obj} {objs' : List Obj} (hk : objs ++ [b] = objs') (h : H m Φ (rg .p P ops l (st n o objs') K E)) : H m Φ (rg .p P ops l (appO (st n o objs) b) K E) := by
  subst hk; exact h
end
end Go.Proofs.YtcpjmkbcefmldaaGreatDoor.AM
