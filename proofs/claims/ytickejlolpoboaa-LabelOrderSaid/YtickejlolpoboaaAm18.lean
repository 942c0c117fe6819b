/- Rules: statements, loops, calls; what may be forgotten on the way. -/
import Derived.Test.YtickejlolpoboaaAm17
set_option linter.all false
namespace Go.Proofs.Ytickejlolpoboaa.AM
open Go

def kQ (K : AS → Prop) (Q : AX → AS → Prop) : AX → AS → Prop
  | .normal, s => K s
  | .exit i, s => Q (.exit i) s
  | .ret, s => Q .ret s

section rules
variable {P : Program} {n0 : Nat} {Q : AX → AS → Prop} {E : AV → List Obj → Prop} {s : AS}

theorem awp_seq {x y : Code} (h : ∀ K : AS → Prop, (∀ s' s1, Weak n0 s' s1 → awp P n0 y s1 Q E → K s') → awp P n0 x s (kQ K Q) E) : awp P n0 (.seq x y) s Q E := by
  have := h (fun s' => ∃ s1, Weak n0 s' s1 ∧ awp P n0 y s1 Q E) (fun s' s1 h1 h2 => ⟨s1, h1, h2⟩)
  have e : seqQ n0 (fun s' => awp P n0 y s' Q E) Q = kQ (fun s' => ∃ s1, Weak n0 s' s1 ∧ awp P n0 y s1 Q E) Q := by
    funext ax s; cases ax <;> rfl
  show awp P n0 x s (seqQ n0 (fun s' => awp P n0 y s' Q E) Q) E
  rw [e]; exact this

theorem awp_region {id : Nat} {l : List Oper} (h : aops P l l s (Q .normal) E) : awp P n0 (.region id l.toArray false) s Q E := ⟨fun _ => h, fun h => by cases h⟩
theorem awp_regionQ {id : Nat} {l : List Oper} (h1 : P.follows .mixedOrders = true) (h2 : Region.lexB .any l.toArray = true) (h : aopsQ P l l s (Q .normal)) : awp P n0 (.region id l.toArray true) s Q E := ⟨fun h => (by cases h), fun _ => ⟨h1, h2, .inl h⟩⟩
theorem awp_regionC {id : Nat} {l : List Oper} (h1 : P.follows .mixedOrders = true) (h2 : Region.lexB .any l.toArray = true) (h : aopsC P l.toArray l s (Q .normal)) : awp P n0 (.region id l.toArray true) s Q E := ⟨fun h => (by cases h), fun _ => ⟨h1, h2, .inr h⟩⟩
theorem awp_skip (h : Q .normal s) : awp P n0 .skip s Q E := h
theorem awp_ret (h : Q .ret s) : awp P n0 .ret s Q E := h
theorem awp_exit {id : Nat} (h : Q (.exit id) s) : awp P n0 (.exit id) s Q E := h
theorem awp_block {id : Nat} {c : Code} (h : awp P n0 c s (blockQ id Q) E) : awp P n0 (.block id c) s Q E := h
theorem awp_cond {c : Operand} {t e : Code} {b : Bool} (hc : s.eval c = .v (.bool b)) (ht : b = true → awp P n0 t s Q E) (hf : b = false → awp P n0 e s Q E) : awp P n0 (.cond c t e) s Q E := by
  simp only [awp, hc]; exact ⟨ht, hf⟩

def IX {X : Type} (St : X → AS) (inv : X → Prop) (μ : X → Nat) (n : Nat) (s : AS) : Prop := ∃ x, inv x ∧ μ x = n ∧ s = St x

theorem awp_loop {X : Type} (St : X → AS) (inv : X → Prop) (μ : X → Nat) (x0 : X) {c : Code} (h0 : inv x0) (hw : Weak n0 s (St x0))
    (hr : ∀ x, inv x → awp P n0 c (St x) (loopQ n0 (IX St inv μ) (μ x) Q) E) : awp P n0 (.loop c) s Q E :=
  ⟨IX St inv μ, ⟨μ x0, St x0, hw, x0, h0, rfl, rfl⟩, fun n s' ⟨x, hx, hn, hs⟩ => by subst hn; subst hs; exact hr x hx⟩

theorem loop_next {X : Type} {St : X → AS} {inv : X → Prop} {μ : X → Nat} {n : Nat} (x : X) (hi : inv x) (hm : μ x < n) (hw : Weak n0 s (St x)) : loopQ n0 (IX St inv μ) n Q .normal s :=
  ⟨μ x, St x, hw, hm, x, hi, rfl, rfl⟩

end rules

/-- Slots that are written, forgotten; then what is known of some. -/
def killL (xs : List AV) : List Nat → List AV
  | [] => xs
  | i :: is => killL (xs.set i .any) is

def updL (xs : List AV) : List (Nat × AV) → List AV
  | [] => xs
  | (i, x) :: is => updL (xs.set i x) is

theorem Weak.to {n0 : Nat} {tmps tmps' : List AV} {objs objs' : List Obj} (extra : List Obj) (h1 : AV.leL tmps tmps') (ho : objs = objs' ++ extra) (hn : n0 ≤ objs'.length)
    (h2 : AV.idsLtL objs'.length tmps' = true) (h3 : belowObjs objs'.length objs' = true) : Weak n0 ⟨tmps, objs⟩ ⟨tmps', objs'⟩ :=
  (Weak.le (s := ⟨tmps, objs⟩) h1).trans (Weak.drop (s := ⟨tmps', objs⟩) objs' extra ho hn h2 h3)

theorem le_v {a b : Value} (h : a = b) : (AV.v a).le (.v b) := AV.le_of_eq (by rw [h])
theorem le_own {r r' : List (List D)} {t : Tk} (h : r = r') : (AV.sl r t).le (.sl r' t) := AV.le_of_eq (by rw [h])

/-! ### Calls -/

mutual
def AV.strip : AV → AV
  | .sl rows _ => .sl rows .none
  | .agg cs => .agg (AV.stripL cs)
  | x => x
def AV.stripL : List AV → List AV
  | [] => []
  | x :: xs => x.strip :: AV.stripL xs
end

def pubTok (objs : List Obj) (o : Nat) : List Obj :=
  match objs[o]? with
  | some (.tok l sz e _) => objs.set o (.tok l sz e false)
  | _ => objs

mutual
def AV.pub (objs : List Obj) : AV → List Obj
  | .sl _ (.own o) => pubTok objs o
  | .agg cs => AV.pubL objs cs
  | _ => objs
def AV.pubL (objs : List Obj) : List AV → List Obj
  | [] => objs
  | x :: xs => AV.pubL (x.pub objs) xs
end

/-- What lies in a row of one's own may be shared from now on. -/
theorem pubTok_step {G : Ghost} {objs : List Obj} {w : World} (hm : Mem G objs w) (o : Nat) : ∃ G', Step G w G' w ∧ Mem G' (pubTok objs o) w ∧
    ∀ b off, G.im (.own o) b off → (∃ l sz e ex, objs[o]? = some (.tok l sz e ex)) → G'.imm b off := by
  unfold pubTok
  cases ho : objs[o]? with
  | none => exact ⟨G, Step.refl G w, hm, fun b off _ ⟨l, sz, e, ex, h⟩ => by cases h⟩
  | some x =>
    cases x with
    | tok l sz e ex =>
      simp only
      obtain ⟨g, hg, hok⟩ := hm.obj ho
      have hlb : o < G.bl.length := by rw [hm.len]; exact hm.lt_objs ho
      rcases hok with ⟨rfl, hl⟩ | ⟨b, cap, cur, rfl, hh, h1, h2, h3, h4, h5⟩
      · refine ⟨⟨G.bl.set o (.full l), G.imm⟩, ?_, ?_, ?_⟩
        · rw [list_set_self hg]; exact Step.refl G w
        · refine Mem.own_set hm (by intro b hb; cases hb) (.inl ⟨rfl, fun h => by cases h⟩) ?_ hm.immLt (fun _ _ _ _ _ _ _ h => h)
          rw [list_set_self hg]; exact Ext.refl G w
        · rintro b off (h | ⟨len, cap, sz', h1, _⟩) _
          · exact h
          · rw [hg] at h1; cases h1
      · let imm' : Nat → Nat → Prop := fun b' off => G.imm b' off ∨ (b' = b ∧ off < l * sz)
        have hself : (G.bl.set o (.tok b l cap sz false))[o]? = some (.tok b l cap sz false) := by rw [List.getElem?_set, if_pos rfl, if_pos hlb]
        have hext : Ext G w ⟨G.bl.set o (.tok b l cap sz false), imm'⟩ w := by
          refine ext_set (fun _ _ h => .inl h) hg ?_ (.inr ⟨_, _, _, _, _, rfl, _, _, _, _, _, rfl, .inr ⟨rfl, rfl, rfl⟩⟩)
          rintro b' off (h | ⟨len, c, s, k1, k2⟩)
          · exact .inl (.inl h)
          · rw [hg] at k1; cases k1
            exact .inl (.inr ⟨rfl, k2⟩)
        refine ⟨⟨G.bl.set o (.tok b l cap sz false), imm'⟩, ⟨hext, fun _ _ _ => rfl, Nat.le_refl _, rfl, rfl, ⟨rfl, Nat.le_refl _⟩, ?_, ?_⟩, ?_, ?_⟩
        · rintro b' off (h | ⟨rfl, _⟩)
          · exact .inl h
          · exact .inr (.inr ⟨o, _, hg, rfl⟩)
        · intro o' g' b' hg' hb'
          rcases set_get hg' with ⟨rfl, rfl⟩ | ⟨_, hg'⟩
          · simp [GB.blk] at hb'; subst hb'; exact .inr ⟨_, _, hg, rfl⟩
          · exact .inr ⟨o', g', hg', hb'⟩
        · refine Mem.own_set hm ?_ (.inr ⟨b, cap, cur, rfl, hh, h1, h2, h3, fun h => (by cases h), ?_⟩) hext ?_ ?_
          · intro b' hb'
            simp [GB.blk] at hb'
            subst hb'
            refine ⟨hm.lt o _ b hg rfl, fun o' g' hne hg' hbb => hne (hm.inj o' o _ _ _ hg' hg hbb rfl)⟩
          · intro _ off h
            rcases h with h | ⟨_, h⟩
            · cases ex
              · exact h5 rfl off h
              · exact (h4 rfl off h).elim
            · exact h
          · rintro b' off (h | ⟨rfl, _⟩)
            · exact hm.immLt b' off h
            · exact hm.lt o _ _ hg rfl
          · intro o' g' b' hne hg' hbb off h
            rcases h with h | ⟨rfl, _⟩
            · exact h
            · exact (hne (hm.inj o' o _ _ _ hg' hg hbb rfl)).elim
        · rintro b' off (h | ⟨len, c, s, k1, k2⟩) _
          · exact .inl h
          · rw [hg] at k1; cases k1
            exact .inr ⟨rfl, k2⟩
    | _ => exact ⟨G, Step.refl G w, hm, fun b off _ ⟨l, sz, e, ex, h⟩ => by cases h⟩

/-- An owned slice's object is a row. -/
theorem own_tok {G : Ghost} {objs : List Obj} {w : World} (hm : Mem G objs w) {n o : Nat} {v : Value} (h : TkOk G n v (.own o)) : G.im (.own o) = G.imm ∨ ∃ l sz e ex, objs[o]? = some (.tok l sz e ex) := by
  rcases h with ⟨l, h1, _⟩ | ⟨b, l, c, sz, ex, h1, _⟩
  · left
    funext b off
    refine propext ⟨fun h => ?_, fun h => .inl h⟩
    rcases h with h | ⟨len, cap, sz, h2, _⟩
    · exact h
    · rw [h1] at h2; cases h2
  · right
    have hl : o < objs.length := by
      rw [← hm.len]
      rcases Nat.lt_or_ge o G.bl.length with h | h
      · exact h
      · rw [List.getElem?_eq_none h] at h1; cases h1
    have hok := hm.ok o _ _ (List.getElem?_eq_getElem hl) h1
    cases hx : objs[o] with
    | tok l' sz' e' ex' => exact ⟨l', sz', e', ex', by rw [List.getElem?_eq_getElem hl, hx]⟩
    | box cells =>
      rw [hx] at hok
      rcases hok with ⟨_, l, h⟩ | ⟨_, _, _, h, _⟩ <;> cases h
    | map es => rw [hx] at hok; obtain ⟨_, _, _, h, _⟩ := hok; cases h
    | dead => rw [hx] at hok; exact (hok _ _ _ _ _ rfl).elim


mutual
theorem strip_step {w : World} : ∀ (x : AV) (G : Ghost) (objs : List Obj), Mem G objs w →
    ∃ G', Step G w G' w ∧ Mem G' (x.pub objs) w ∧ ∀ v, Conc G w x v → Conc G' w x.strip v
  | .sl rows (.own o), G, objs, hm => by
    obtain ⟨G', h1, h2, h3⟩ := pubTok_step hm o
    refine ⟨G', h1, h2, fun v hc => ?_⟩
    cases hc with
    | sl _ _ _ hd ht =>
      refine .sl rows .none _ ?_ trivial
      refine hd.mono (fun _ _ _ => rfl) (fun b off h => ?_) (fun _ _ _ => rfl) h1.ext.imm
      rcases own_tok hm ht with he | he
      · rw [he] at h; exact h1.ext.imm b off h
      · exact h3 b off h he
  | .sl rows .none, G, objs, hm => ⟨G, Step.refl G w, hm, fun v hc => hc⟩
  | .sl rows .exact, G, objs, hm => ⟨G, Step.refl G w, hm, fun v hc => AV.le_sound (AV.le_sl rows) hc⟩
  | .agg cs, G, objs, hm => by
    obtain ⟨G', h1, h2, h3⟩ := stripL_step cs G objs hm
    refine ⟨G', h1, h2, fun v hc => ?_⟩
    cases hc with
    | agg _ vs hl hone hcc =>
      obtain ⟨k1, k2⟩ := h3 vs ⟨hl, hcc⟩
      simp only [AV.strip]
      exact .agg _ vs k1 hone k2
  | .v x, G, objs, hm => ⟨G, Step.refl G w, hm, fun v hc => hc⟩
  | .tup cs, G, objs, hm => ⟨G, Step.refl G w, hm, fun v hc => hc⟩
  | .ptr .., G, objs, hm => ⟨G, Step.refl G w, hm, fun v hc => hc⟩
  | .ep .., G, objs, hm => ⟨G, Step.refl G w, hm, fun v hc => hc⟩
  | .bsl .., G, objs, hm => ⟨G, Step.refl G w, hm, fun v hc => hc⟩
  | .map .., G, objs, hm => ⟨G, Step.refl G w, hm, fun v hc => hc⟩
  | .fn .., G, objs, hm => ⟨G, Step.refl G w, hm, fun v hc => hc⟩
  | .cnd .., G, objs, hm => ⟨G, Step.refl G w, hm, fun v hc => hc⟩
  | .any, G, objs, hm => ⟨G, Step.refl G w, hm, fun v hc => hc⟩
theorem stripL_step {w : World} : ∀ (xs : List AV) (G : Ghost) (objs : List Obj), Mem G objs w →
    ∃ G', Step G w G' w ∧ Mem G' (AV.pubL objs xs) w ∧ ∀ vs, ConcL G w xs vs → ConcL G' w (AV.stripL xs) vs
  | [], G, objs, hm => ⟨G, Step.refl G w, hm, fun vs hc => hc⟩
  | x :: xs, G, objs, hm => by
    obtain ⟨G1, h1, h2, h3⟩ := strip_step x G objs hm
    obtain ⟨G2, k1, k2, k3⟩ := stripL_step xs G1 (x.pub objs) h2
    refine ⟨G2, h1.trans k1, k2, fun vs hc => ?_⟩
    cases vs with
    | nil => exact absurd hc.1 (by simp)
    | cons v vs =>
      have hx := (h3 v (hc.2 0 x v rfl rfl)).mono k1.ext
      have hrest : ConcL G w xs vs := ⟨by simpa using hc.1, fun i c u hc' hu => hc.2 (i + 1) c u (by simpa using hc') (by simpa using hu)⟩
      obtain ⟨e1, e2⟩ := k3 vs (hrest.mono h1.ext)
      refine ⟨by simp [AV.stripL, e1], fun i c u hc' hu => ?_⟩
      cases i with
      | zero => simp [AV.stripL] at hc' hu; subst hc'; subst hu; exact hx
      | succ i => exact e2 i c u (by simpa [AV.stripL] using hc') (by simpa using hu)
end

theorem ACall.strip {P : Program} {f : Nat} {args : List AV} {objs : List Obj} {R : AEnd → List Obj → Prop} (h : ACall P f (AV.stripL args) (AV.pubL objs args) R) : ACall P f args objs R := by
  intro G w vs hm hc
  obtain ⟨G1, h1, h2, h3⟩ := stripL_step args G objs hm
  refine (h G1 w vs h2 (h3 vs hc)).mono ?_
  rintro e w' ⟨ae, objs', G', k1, k2, k3, k4⟩
  exact ⟨ae, objs', G', k1, k2, h1.trans k3, k4⟩

theorem ACall.le {P : Program} {f : Nat} {args args' : List AV} {objs : List Obj} {R : AEnd → List Obj → Prop} (hl : AV.leL args args') (h : ACall P f args' objs R) : ACall P f args objs R :=
  fun G w vs hm hc => h G w vs hm (AV.leL_sound hl hc)

/-! ### Frames: a contract over no objects holds beside any. -/

def Tk.shift (n : Nat) : Tk → Tk
  | .own o => .own (n + o)
  | t => t

mutual
def AV.shift (n : Nat) : AV → AV
  | .v x => .v x
  | .sl rows t => .sl rows (t.shift n)
  | .agg cs => .agg (AV.shiftL n cs)
  | .tup cs => .tup (AV.shiftL n cs)
  | .ptr o off => .ptr (n + o) off
  | .ep rows i off t => .ep rows i off (t.shift n)
  | .bsl o off len => .bsl (n + o) off len
  | .map o => .map (n + o)
  | .fn f a b => .fn f (AV.shiftL n a) (AV.shiftL n b)
  | .cnd g x => .cnd g (x.shift n)
  | .any => .any
def AV.shiftL (n : Nat) : List AV → List AV
  | [] => []
  | x :: xs => x.shift n :: AV.shiftL n xs
end

def Obj.shift (n : Nat) : Obj → Obj
  | .box cs => .box (AV.shiftL n cs)
  | .map es => .map (es.map fun e => (e.1, e.2.shift n))
  | x => x

theorem shiftL_length (n : Nat) : ∀ xs : List AV, (AV.shiftL n xs).length = xs.length
  | [] => rfl
  | _ :: xs => by simp [AV.shiftL, shiftL_length n xs]

theorem shiftL_get {n : Nat} (xs : List AV) : ∀ {i : Nat} {y : AV}, (AV.shiftL n xs)[i]? = some y → ∃ x, xs[i]? = some x ∧ y = x.shift n := by
  induction xs with
  | nil => intro i y h; simp [AV.shiftL] at h
  | cons x xs ih =>
    intro i y h
    cases i with
    | zero => simp [AV.shiftL] at h; exact ⟨x, rfl, h.symm⟩
    | succ i => simp only [AV.shiftL, List.getElem?_cons_succ] at h; exact ih h

theorem bl_shift {bl bl' : List GB} {o : Nat} {g : GB} (h : bl'[o]? = some g) : (bl ++ bl')[bl.length + o]? = some g := by
  rw [List.getElem?_append_right (Nat.le_add_right _ _), Nat.add_sub_cancel_left]; exact h

theorem im_shift {bl : List GB} {G' : Ghost} {t : Tk} {b off : Nat} (h : G'.im t b off) : Ghost.im ⟨bl ++ G'.bl, G'.imm⟩ (t.shift bl.length) b off := by
  cases t with
  | none => exact h
  | exact => exact h
  | own o =>
    rcases h with h | ⟨l, c, s, h1, h2⟩
    · exact .inl h
    · exact .inr ⟨l, c, s, bl_shift h1, h2⟩

theorem Conc.shift {bl : List GB} {G' : Ghost} {w : World} {x : AV} {v : Value} (h : Conc G' w x v) : Conc ⟨bl ++ G'.bl, G'.imm⟩ w (x.shift bl.length) v := by
  induction h with
  | v x hx => exact .v x hx
  | any x => exact .any x
  | cnd g y x _ h' ih => exact .cnd g _ x ih h'
  | sl rows t x hd ht =>
    refine .sl rows _ x (hd.mono (fun _ _ _ => rfl) (fun b off h => im_shift h) (fun _ _ _ => rfl) (fun _ _ h => h)) ?_
    cases t with
    | none => trivial
    | exact => exact ht
    | own o =>
      rcases ht with ⟨l, h1, h2⟩ | ⟨b, l, c, sz, ex, h1, h2⟩
      · exact .inl ⟨l, bl_shift h1, h2⟩
      · exact .inr ⟨b, l, c, sz, ex, bl_shift h1, h2⟩
  | agg cs vs hl h1 _ ih =>
    refine .agg _ vs (by rw [shiftL_length]; exact hl) h1 (fun i c v hc hv => ?_)
    obtain ⟨x, hx, rfl⟩ := shiftL_get _ hc
    exact ih i x v hx hv
  | tup cs vs hl _ ih =>
    refine .tup _ vs (by rw [shiftL_length]; exact hl) (fun i c v hc hv => ?_)
    obtain ⟨x, hx, rfl⟩ := shiftL_get _ hc
    exact ih i x v hx hv
  | ptr o off b h => exact .ptr _ off b (bl_shift h)
  | ep rows i off t b st sz h => exact .ep rows i off _ b st sz (h.mono (fun _ _ _ => rfl) (fun b off h => im_shift h) (fun _ _ _ => rfl) (fun _ _ h => h))
  | bsl o off len cap b h h1 h2 => exact .bsl _ off len cap b (bl_shift h) h1 h2
  | bsl0 o off cap a h2 => exact .bsl0 _ off cap a h2
  | map o b h => exact .map _ b (bl_shift h)
  | fn f first cap vf vc h1 h2 _ _ ih1 ih2 =>
    refine .fn f _ _ vf vc (by rw [shiftL_length]; exact h1) (by rw [shiftL_length]; exact h2) (fun i c v hc hv => ?_) (fun i c v hc hv => ?_)
    · obtain ⟨x, hx, rfl⟩ := shiftL_get _ hc
      exact ih1 i x v hx hv
    · obtain ⟨x, hx, rfl⟩ := shiftL_get _ hc
      exact ih2 i x v hx hv

def AEnd.shift (n : Nat) : AEnd → AEnd
  | .ret x => .ret (x.shift n)
  | .pan x => .pan (x.shift n)

theorem ACall.frame {P : Program} {f : Nat} {args : List AV} {R : AEnd → List Obj → Prop} (h : ACall P f args [] R) (ha : AV.idsLtL 0 args = true) (objs : List Obj) :
    ACall P f args objs (fun ae o => ∃ ae0 o0, R ae0 o0 ∧ ae = ae0.shift objs.length ∧ o = objs ++ o0.map (Obj.shift objs.length)) := by
  intro G w vs hm hc
  have hm0 : Mem ⟨[], G.imm⟩ [] w := ⟨rfl, fun o x g h => by simp at h, fun o o' g g' b h => by simp at h, fun o g b h => by simp at h, hm.immLt⟩
  have hc0 : ConcL ⟨[], G.imm⟩ w args vs := ⟨hc.1, fun i x v hx hv => by
    have := (hc.2 i x v hx hv).trunc (n := 0) (belowL_get ha i x hx)
    simpa using this⟩
  refine (h ⟨[], G.imm⟩ w vs hm0 hc0).mono ?_
  rintro e w' ⟨ae0, o0, G', hR, hm', hst, hend⟩
  have hold : ∀ b, b < w.heap.size → w'.heap[b]? = w.heap[b]? := fun b hb => hst.heap b hb (fun o g hg => by simp at hg)
  have himm : ∀ b off, b < w.heap.size → G'.imm b off → G.imm b off := by
    intro b off hb hi
    rcases hst.imm2 b off hi with h | h | ⟨o, g, h, _⟩
    · exact h
    · omega
    · simp at h
  have hnew : ∀ (o : Nat) (g : GB) (b : Nat), G'.bl[o]? = some g → g.blk = some b → w.heap.size ≤ b := by
    intro o g b hg hb
    rcases hst.blk o g b hg hb with h | ⟨o', g', h, _⟩
    · exact h
    · simp at h
  have key : ∀ (o : Nat) (g : GB), G.bl[o]? = some g → (G.bl ++ G'.bl)[o]? = some g := by
    intro o g hg
    have hl : o < G.bl.length := by
      rcases Nat.lt_or_ge o G.bl.length with h | h
      · exact h
      · rw [List.getElem?_eq_none h] at hg; cases hg
    rw [List.getElem?_append_left hl]; exact hg
  have part : ∀ (o : Nat) (g : GB), (G.bl ++ G'.bl)[o]? = some g → (o < G.bl.length ∧ G.bl[o]? = some g) ∨ (∃ j, o = G.bl.length + j ∧ G'.bl[j]? = some g) := by
    intro o g hg
    rcases Nat.lt_or_ge o G.bl.length with hl | hl
    · rw [List.getElem?_append_left hl] at hg; exact .inl ⟨hl, hg⟩
    · rw [List.getElem?_append_right hl] at hg; exact .inr ⟨o - G.bl.length, by omega, hg⟩
  have hext : Ext G w ⟨G.bl ++ G'.bl, G'.imm⟩ w' :=
    ⟨fun t b off hi => cell_of_heap (hold b (hm.imLt t b off hi)) off, im_of_sub key (fun b off h => hst.ext.imm b off h), fun o b h => key o _ h, fun o l h => .inl (key o _ h), fun o b l c sz ex h => ⟨b, l, c, sz, ex, key o _ h, .inr ⟨rfl, rfl, rfl⟩⟩⟩
  refine ⟨ae0.shift objs.length, objs ++ o0.map (Obj.shift objs.length), ⟨G.bl ++ G'.bl, G'.imm⟩, ⟨ae0, o0, hR, rfl, rfl⟩, ?_, ?_, ?_⟩
  · refine ⟨by simp [hm.len, hm'.len], ?_, ?_, ?_, hm'.immLt⟩
    · intro o x g hx hg
      rcases part o g hg with ⟨hl, hg'⟩ | ⟨j, rfl, hg'⟩
      · rw [List.getElem?_append_left (by rw [← hm.len]; exact hl)] at hx
        exact (hm.ok o x g hx hg').mono hext (fun b hb => hold b (hm.lt o g b hg' hb)) (fun b hb off hi => himm b off (hm.lt o g b hg' hb) hi)
      · rw [hm.len, List.getElem?_append_right (Nat.le_add_right _ _), Nat.add_sub_cancel_left, List.getElem?_map] at hx
        cases hx0 : o0[j]? with
        | none => simp [hx0] at hx
        | some x0 =>
          simp only [hx0, Option.map_some, Option.some.injEq] at hx
          subst hx
          have hok := hm'.ok j x0 g hx0 hg'
          cases x0 with
          | box cells =>
            rcases hok with ⟨rfl, l, hl⟩ | ⟨b, c, e, h1, h2, h3, h4, h5⟩
            · exact .inl ⟨rfl, l, hl⟩
            · refine .inr ⟨b, c, e, h1, h2, by rw [shiftL_length]; exact h3, ?_, h5⟩
              intro i y v hy hv
              obtain ⟨x, hx, rfl⟩ := shiftL_get _ hy
              refine ⟨(h4 i x v hx hv).1, ?_⟩
              rw [← hm.len]; exact (h4 i x v hx hv).2.shift
          | tok l sz e ex => exact hok
          | map es =>
            obtain ⟨b, ents, clock, e1, e2, e3, e4, e5, e6⟩ := hok
            refine ⟨b, ents, clock, e1, e2, by simp [e3], fun i k y e hi he => ?_, e5, e6⟩
            rw [List.getElem?_map] at hi
            cases hes : es[i]? with
            | none => simp [hes] at hi
            | some p =>
              simp only [hes, Option.map_some, Option.some.injEq, Prod.mk.injEq] at hi
              obtain ⟨rfl, rfl⟩ := hi
              have := e4 i p.1 p.2 e hes he
              exact ⟨this.1, by rw [← hm.len]; exact this.2.1.shift, this.2.2⟩
          | dead => exact hok
    · intro o o' g g' b h1 h2 e1 e2
      rcases part o g h1 with ⟨hl, k1⟩ | ⟨j, rfl, k1⟩ <;> rcases part o' g' h2 with ⟨hl', k2⟩ | ⟨j', rfl, k2⟩
      · exact hm.inj o o' g g' b k1 k2 e1 e2
      · have := hm.lt o g b k1 e1; have := hnew j' g' b k2 e2; omega
      · have := hm.lt o' g' b k2 e2; have := hnew j g b k1 e1; omega
      · rw [hm'.inj j j' g g' b k1 k2 e1 e2]
    · intro o g b h1 e1
      rcases part o g h1 with ⟨hl, k1⟩ | ⟨j, rfl, k1⟩
      · exact Nat.lt_of_lt_of_le (hm.lt o g b k1 e1) hst.size
      · exact hm'.lt j g b k1 e1
  · refine ⟨hext, fun k hk _ => hold k hk, hst.size, hst.os, hst.tape, hst.output, ?_, ?_⟩
    · intro b off hi
      rcases hst.imm2 b off hi with h | h | ⟨o, g, h, _⟩
      · exact .inl h
      · exact .inr (.inl h)
      · simp at h
    · intro o g b h1 e1
      rcases part o g h1 with ⟨hl, k1⟩ | ⟨j, rfl, k1⟩
      · exact .inr ⟨o, g, k1, e1⟩
      · exact .inl (hnew j g b k1 e1)
  · cases ae0 with
    | ret x =>
      cases e with
      | returned v => have := Conc.shift (bl := G.bl) hend; rw [hm.len] at this; rw [hm.len] at *; exact this
      | panicked chain => exact hend.elim
      | outgrown => exact hend.elim
    | pan x =>
      cases e with
      | returned v => exact hend.elim
      | panicked chain => obtain ⟨v, hv, hx⟩ := hend; have := Conc.shift (bl := G.bl) hx; rw [hm.len] at this; exact ⟨v, hv, this⟩
      | outgrown => exact hend.elim

end Go.Proofs.Ytickejlolpoboaa.AM
