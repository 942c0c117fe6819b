/- A part of the proof: Am18, Am19, Am20, Am24, Am25, Am26, Am27, Am28, Am21, Am23. -/
import Derived.Test.YtcpjmkbcefmldaaGreatDoorA2
import Derived.ProofKit
import Derived.OpenShut
set_option linter.all false
/- Rules: statements, loops, calls; what may be forgotten on the way. -/
namespace Go.Proofs.YtcpjmkbcefmldaaGreatDoor.AM
open Go

def kQ (K : AS → Prop) (Q : AX → AS → Prop) : AX → AS → Prop
  | .normal, s => K s
  | .exit i, s => Q (.exit i) s
  | .ret, s => Q .ret s

section rules
variable {P : Program} {n0 : Nat} {Q : AX → AS → Prop} {E : AV → List Obj → Prop} {s : AS}

theorem awp_region {id : Nat} {l : List Oper} (h : aops P l l s (Q .normal) E) : awp P n0 (.region id l.toArray false) s Q E := ⟨fun _ => .inl h, fun h => by cases h⟩
theorem awp_regionW {id : Nat} {l rs : List Oper} {o : Oper} (hl : l = rs ++ [o]) (h : aops P l rs s (fun s1 => ownSt P n0 o s1 (Q .normal)) E) : awp P n0 (.region id l.toArray false) s Q E := ⟨fun _ => .inr ⟨rs, o, hl, h⟩, fun h => by cases h⟩
theorem awp_regionQ {id : Nat} {l : List Oper} (h1 : P.follows .mixedOrders = true) (h2 : Region.lexB .any l.toArray = true) (h : aopsQ P l l s (Q .normal)) : awp P n0 (.region id l.toArray true) s Q E := ⟨fun h => (by cases h), fun _ => ⟨h1, .inl ⟨h2, .inl h⟩⟩⟩
theorem awp_regionC {id : Nat} {l : List Oper} (h1 : P.follows .mixedOrders = true) (h2 : Region.lexB .any l.toArray = true) (h : aopsC P l.toArray l s (Q .normal)) : awp P n0 (.region id l.toArray true) s Q E := ⟨fun h => (by cases h), fun _ => ⟨h1, .inl ⟨h2, .inr h⟩⟩⟩
theorem awp_regionT {id : Nat} {l : List Oper} (m : Nat) (h1 : P.follows .mixedOrders = true) (h2 : lexT l.toArray m = true) (h : aopsC P l.toArray (l.take m) s (fun s' => aops P l (l.drop m) s' (Q .normal) (fun _ _ => False))) : awp P n0 (.region id l.toArray true) s Q E := ⟨fun h => (by cases h), fun _ => ⟨h1, .inr (.inl ⟨m, h2, h⟩)⟩⟩
theorem awp_regionA {id : Nat} {l : List Oper} (h1 : P.follows .mixedOrders = true) (h : drawA P l.toArray s (Q .normal)) : awp P n0 (.region id l.toArray true) s Q E := ⟨fun h => (by cases h), fun _ => ⟨h1, .inr (.inr (.inl h))⟩⟩
theorem awp_regionX {id : Nat} {l : List Oper} {r : List (Bool × Nat)} {lo : List (Bool × Oper)} (h1 : P.follows .mixedOrders = true) (h2 : Nat.beq r.length l.length = true) (h3 : permB l.toArray r (Array.replicate l.toArray.size false) = true) (h4 : permO l r lo) (h : aopsX P l.toArray (Q .normal) lo s) : awp P n0 (.region id l.toArray true) s Q E :=
  ⟨fun h => (by cases h), fun _ => ⟨h1, .inr (.inr (.inr ⟨r, lo, by rw [Nat.eq_of_beq_eq_true h2]; simp, h3, by simpa using h4, h⟩))⟩⟩
theorem awp_cond {c : Operand} {t e : Code} {b : Bool} (hc : s.eval c = .v (.bool b)) (ht : b = true → awp P n0 t s Q E) (hf : b = false → awp P n0 e s Q E) : awp P n0 (.cond c t e) s Q E := by
  simp only [awp, hc]; exact ⟨ht, hf⟩

end rules

def killL (xs : List AV) : List Nat → List AV
  | [] => xs
  | i :: is => killL (xs.set i .any) is

def updL (xs : List AV) : List (Nat × AV) → List AV
  | [] => xs
  | (i, x) :: is => updL (xs.set i x) is

mutual
def AV.strip : AV → AV
  | .sl rows _ => .sl rows .none
  | .agg cs => .agg (AV.stripL cs)
  | x => x
def AV.stripL : List AV → List AV
  | [] => []
  | x :: xs => x.strip :: AV.stripL xs
end

def pubTok (objs : List Obj) (o : Nat) : List Obj :=
  match objs[o]? with
  | some (.tok l sz e _) => objs.set o (.tok l sz e false)
  | _ => objs

mutual
def AV.pub (objs : List Obj) : AV → List Obj
  | .sl _ (.own o) => pubTok objs o
  | .agg cs => AV.pubL objs cs
  | _ => objs
def AV.pubL (objs : List Obj) : List AV → List Obj
  | [] => objs
  | x :: xs => AV.pubL (x.pub objs) xs
end

theorem pubTok_step {G : Ghost} {objs : List Obj} {w : World} (hm : Mem G objs w) (o : Nat) : ∃ G', Step G w G' w ∧ Mem G' (pubTok objs o) w ∧
    ∀ b off, G.im (.own o) b off → (∃ l sz e ex, objs[o]? = some (.tok l sz e ex)) → G'.imm b off := by
  unfold pubTok
  cases ho : objs[o]? with
  | none => exact ⟨G, Step.refl G w, hm, fun b off _ ⟨l, sz, e, ex, h⟩ => by cases h⟩
  | some x =>
    cases x with
    | tok l sz e ex =>
      simp only
      obtain ⟨g, hg, hok⟩ := hm.obj ho
      have hlb : o < G.bl.length := by rw [hm.len]; exact hm.lt_objs ho
      rcases hok with ⟨rfl, hl⟩ | ⟨b, cap, cur, rfl, hh, h1, h2, h3, h4, h5⟩
      · refine ⟨⟨G.bl.set o (.full l), G.imm⟩, ?_, ?_, ?_⟩
        · rw [list_set_self hg]; exact Step.refl G w
        · refine Mem.own_set hm (by intro b hb; cases hb) (.inl ⟨rfl, fun h => by cases h⟩) ?_ hm.immLt.1 (fun _ _ _ _ _ _ _ h => h)
          rw [list_set_self hg]; exact Ext.refl G w
        · rintro b off (h | ⟨len, cap, sz', h1, _⟩) _
          · exact h
          · rw [hg] at h1; cases h1
      · let imm' : Nat → Nat → Prop := fun b' off => G.imm b' off ∨ (b' = b ∧ off < l * sz)
        have hself : (G.bl.set o (.tok b l cap sz false))[o]? = some (.tok b l cap sz false) := by rw [List.getElem?_set, if_pos rfl, if_pos hlb]
        have hext : Ext G w ⟨G.bl.set o (.tok b l cap sz false), imm'⟩ w := by
          refine ext_set (fun _ _ h => .inl h) hg ?_ (.inr ⟨_, _, _, _, _, rfl, _, _, _, _, _, rfl, .inr ⟨rfl, rfl, rfl⟩⟩)
          rintro b' off (h | ⟨len, c, s, k1, k2⟩)
          · exact .inl (.inl h)
          · rw [hg] at k1; cases k1
            exact .inl (.inr ⟨rfl, k2⟩)
        refine ⟨⟨G.bl.set o (.tok b l cap sz false), imm'⟩, ⟨hext, fun _ _ _ => rfl, Nat.le_refl _, rfl, rfl, ⟨rfl, Nat.le_refl _⟩, ?_, ?_⟩, ?_, ?_⟩
        · rintro b' off (h | ⟨rfl, _⟩)
          · exact .inl h
          · exact .inr (.inr ⟨o, _, hg, rfl⟩)
        · intro o' g' b' hg' hb'
          rcases set_get hg' with ⟨rfl, rfl⟩ | ⟨_, hg'⟩
          · simp [GB.blk] at hb'; subst hb'; exact .inr ⟨_, _, hg, rfl⟩
          · exact .inr ⟨o', g', hg', hb'⟩
        · refine Mem.own_set hm ?_ (.inr ⟨b, cap, cur, rfl, hh, h1, h2, h3, fun h => (by cases h), ?_⟩) hext ?_ ?_
          · intro b' hb'
            simp [GB.blk] at hb'
            subst hb'
            refine ⟨hm.lt o _ b hg rfl, fun o' g' hne hg' hbb => hne (hm.inj o' o _ _ _ hg' hg hbb rfl)⟩
          · intro _ off h
            rcases h with h | ⟨_, h⟩
            · cases ex
              · exact h5 rfl off h
              · exact (h4 rfl off h).elim
            · exact h
          · rintro b' off (h | ⟨rfl, _⟩)
            · exact hm.immLt.1 b' off h
            · exact hm.lt o _ _ hg rfl
          · intro o' g' b' hne hg' hbb off h
            rcases h with h | ⟨rfl, _⟩
            · exact h
            · exact (hne (hm.inj o' o _ _ _ hg' hg hbb rfl)).elim
        · rintro b' off (h | ⟨len, c, s, k1, k2⟩) _
          · exact .inl h
          · rw [hg] at k1; cases k1
            exact .inr ⟨rfl, k2⟩
    | _ => exact ⟨G, Step.refl G w, hm, fun b off _ ⟨l, sz, e, ex, h⟩ => by cases h⟩

theorem own_tok {G : Ghost} {objs : List Obj} {w : World} (hm : Mem G objs w) {n o : Nat} {v : Value} (h : TkOk G n v (.own o)) : G.im (.own o) = G.imm ∨ ∃ l sz e ex, objs[o]? = some (.tok l sz e ex) := by
  rcases h with ⟨l, h1, _⟩ | ⟨b, l, c, sz, ex, h1, _⟩
  · left
    funext b off
    refine propext ⟨fun h => ?_, fun h => .inl h⟩
    rcases h with h | ⟨len, cap, sz, h2, _⟩
    · exact h
    · rw [h1] at h2; cases h2
  · cases ex with
    | false =>
      left
      funext b off
      refine propext ⟨fun h => ?_, fun h => .inl h⟩
      rcases h with h | ⟨len, cap, sz, h2, _⟩
      · exact h
      · rw [h1] at h2; cases h2
    | true =>
      right
      have hl : o < objs.length := by
        rw [← hm.len]
        rcases Nat.lt_or_ge o G.bl.length with h | h
        · exact h
        · rw [List.getElem?_eq_none h] at h1; cases h1
      have hok := hm.ok o _ _ (List.getElem?_eq_getElem hl) h1
      cases hx : objs[o] with
      | tok l' sz' e' ex' => exact ⟨l', sz', e', ex', by rw [List.getElem?_eq_getElem hl, hx]⟩
      | box cells =>
        rw [hx] at hok
        rcases hok with ⟨_, l, h⟩ | ⟨_, _, _, h, _⟩ <;> cases h
      | map es => rw [hx] at hok; obtain ⟨_, _, _, h, _⟩ := hok; cases h
      | mapB bs clock es => rw [hx] at hok; obtain ⟨_, _, h, _⟩ := hok; cases h
      | iter m since seen => rw [hx] at hok; obtain ⟨_, _, h, _⟩ := hok; cases h
      | bld e buf => rw [hx] at hok; obtain ⟨_, _, _, h, _⟩ := hok; cases h
      | lin v sz e rows =>
        rw [hx] at hok
        rcases hok with ⟨_, _, h⟩ | ⟨_, _, _, h, _⟩ <;> cases h
      | dead => rw [hx] at hok; exact (hok _ _ _ _ rfl).elim

mutual
theorem strip_step {w : World} : ∀ (x : AV) (G : Ghost) (objs : List Obj), Mem G objs w →
    ∃ G', Step G w G' w ∧ Mem G' (x.pub objs) w ∧ ∀ v, Conc G w x v → Conc G' w x.strip v
  | .sl rows (.own o), G, objs, hm => by
    obtain ⟨G', h1, h2, h3⟩ := pubTok_step hm o
    refine ⟨G', h1, h2, fun v hc => ?_⟩
    cases hc with
    | sl _ _ _ hd ht =>
      refine .sl rows .none _ ?_ trivial
      refine hd.mono (fun _ _ _ => rfl) (fun b off h => ?_) (fun _ _ _ => rfl) h1.ext.imm
      rcases own_tok hm ht with he | he
      · rw [he] at h; exact h1.ext.imm b off h
      · exact h3 b off h he
  | .sl rows .none, G, objs, hm => ⟨G, Step.refl G w, hm, fun v hc => hc⟩
  | .sl rows .exact, G, objs, hm => ⟨G, Step.refl G w, hm, fun v hc => AV.le_sound (AV.le_sl rows) hc⟩
  | .agg cs, G, objs, hm => by
    obtain ⟨G', h1, h2, h3⟩ := stripL_step cs G objs hm
    refine ⟨G', h1, h2, fun v hc => ?_⟩
    cases hc with
    | agg _ vs hl hone hcc =>
      obtain ⟨k1, k2⟩ := h3 vs ⟨hl, hcc⟩
      simp only [AV.strip]
      exact .agg _ vs k1 hone k2
  | .v x, G, objs, hm => ⟨G, Step.refl G w, hm, fun v hc => hc⟩
  | .tup cs, G, objs, hm => ⟨G, Step.refl G w, hm, fun v hc => hc⟩
  | .ptr .., G, objs, hm => ⟨G, Step.refl G w, hm, fun v hc => hc⟩
  | .ep .., G, objs, hm => ⟨G, Step.refl G w, hm, fun v hc => hc⟩
  | .bsl .., G, objs, hm => ⟨G, Step.refl G w, hm, fun v hc => hc⟩
  | .map .., G, objs, hm => ⟨G, Step.refl G w, hm, fun v hc => hc⟩
  | .fn .., G, objs, hm => ⟨G, Step.refl G w, hm, fun v hc => hc⟩
  | .cnd .., G, objs, hm => ⟨G, Step.refl G w, hm, fun v hc => hc⟩
  | .any, G, objs, hm => ⟨G, Step.refl G w, hm, fun v hc => hc⟩
theorem stripL_step {w : World} : ∀ (xs : List AV) (G : Ghost) (objs : List Obj), Mem G objs w →
    ∃ G', Step G w G' w ∧ Mem G' (AV.pubL objs xs) w ∧ ∀ vs, ConcL G w xs vs → ConcL G' w (AV.stripL xs) vs
  | [], G, objs, hm => ⟨G, Step.refl G w, hm, fun vs hc => hc⟩
  | x :: xs, G, objs, hm => by
    obtain ⟨G1, h1, h2, h3⟩ := strip_step x G objs hm
    obtain ⟨G2, k1, k2, k3⟩ := stripL_step xs G1 (x.pub objs) h2
    refine ⟨G2, h1.trans k1, k2, fun vs hc => ?_⟩
    cases vs with
    | nil => exact absurd hc.1 (by simp)
    | cons v vs =>
      have hx := (h3 v (hc.2 0 x v rfl rfl)).mono k1.ext
      have hrest : ConcL G w xs vs := ⟨by simpa using hc.1, fun i c u hc' hu => hc.2 (i + 1) c u (by simpa using hc') (by simpa using hu)⟩
      obtain ⟨e1, e2⟩ := k3 vs (hrest.mono h1.ext)
      refine ⟨by simp [AV.stripL, e1], fun i c u hc' hu => ?_⟩
      cases i with
      | zero => simp [AV.stripL] at hc' hu; subst hc'; subst hu; exact hx
      | succ i => exact e2 i c u (by simpa [AV.stripL] using hc') (by simpa using hu)
end

theorem ACall.strip {P : Program} {f : Nat} {args : List AV} {objs : List Obj} {R : AEnd → List Obj → Prop} (h : ACall P f (AV.stripL args) (AV.pubL objs args) R) : ACall P f args objs R := by
  intro G w vs hm hc
  obtain ⟨G1, h1, h2, h3⟩ := stripL_step args G objs hm
  refine (h G1 w vs h2 (h3 vs hc)).mono ?_
  rintro e w' ⟨ae, objs', G', k1, k2, k3, k4⟩
  exact ⟨ae, objs', G', k1, k2, h1.trans k3, k4⟩

theorem ACall.le {P : Program} {f : Nat} {args args' : List AV} {objs : List Obj} {R : AEnd → List Obj → Prop} (hl : AV.leL args args') (h : ACall P f args' objs R) : ACall P f args objs R :=
  fun G w vs hm hc => h G w vs hm (AV.leL_sound hl hc)

/-! ### Frames: a contract over no objects holds beside any. -/

def Tk.shift (n : Nat) : Tk → Tk
  | .own o => .own (n + o)
  | t => t

mutual
def AV.shift (n : Nat) : AV → AV
  | .v x => .v x
  | .sl rows t => .sl rows (t.shift n)
  | .agg cs => .agg (AV.shiftL n cs)
  | .tup cs => .tup (AV.shiftL n cs)
  | .ptr o off => .ptr (n + o) off
  | .ep rows i off t => .ep rows i off (t.shift n)
  | .bsl o off len => .bsl (n + o) off len
  | .map o => .map (n + o)
  | .fn f a b => .fn f (AV.shiftL n a) (AV.shiftL n b)
  | .cnd g x => .cnd g (x.shift n)
  | .any => .any
def AV.shiftL (n : Nat) : List AV → List AV
  | [] => []
  | x :: xs => x.shift n :: AV.shiftL n xs
end

def Obj.shift (n : Nat) : Obj → Obj
  | .box cs => .box (AV.shiftL n cs)
  | .map es => .map (es.map fun e => (e.1, e.2.shift n))
  | .mapB bs c es => .mapB bs c (es.map fun e => (e.1, e.2.shift n))
  | .iter m since seen => .iter (n + m) since seen
  | .bld e buf => .bld e (buf.shift n)
  | x => x

theorem shiftL_length (n : Nat) : ∀ xs : List AV, (AV.shiftL n xs).length = xs.length
  | [] => rfl
  | _ :: xs => by simp [AV.shiftL, shiftL_length n xs]

theorem shiftL_get {n : Nat} (xs : List AV) : ∀ {i : Nat} {y : AV}, (AV.shiftL n xs)[i]? = some y → ∃ x, xs[i]? = some x ∧ y = x.shift n := by
  induction xs with
  | nil => intro i y h; simp [AV.shiftL] at h
  | cons x xs ih =>
    intro i y h
    cases i with
    | zero => simp [AV.shiftL] at h; exact ⟨x, rfl, h.symm⟩
    | succ i => simp only [AV.shiftL, List.getElem?_cons_succ] at h; exact ih h

theorem bl_shift {bl bl' : List GB} {o : Nat} {g : GB} (h : bl'[o]? = some g) : (bl ++ bl')[bl.length + o]? = some g := by
  rw [List.getElem?_append_right (Nat.le_add_right _ _), Nat.add_sub_cancel_left]; exact h

theorem im_shift {bl : List GB} {G' : Ghost} {t : Tk} {b off : Nat} (h : G'.im t b off) : Ghost.im ⟨bl ++ G'.bl, G'.imm⟩ (t.shift bl.length) b off := by
  cases t with
  | none => exact h
  | exact => exact h
  | own o =>
    rcases h with h | ⟨l, c, s, h1, h2⟩
    · exact .inl h
    · exact .inr ⟨l, c, s, bl_shift h1, h2⟩

theorem Conc.shift {bl : List GB} {G' : Ghost} {w : World} {x : AV} {v : Value} (h : Conc G' w x v) : Conc ⟨bl ++ G'.bl, G'.imm⟩ w (x.shift bl.length) v := by
  induction h with
  | v x hx => exact .v x hx
  | any x => exact .any x
  | cnd g y x _ h' ih => exact .cnd g _ x ih h'
  | sl rows t x hd ht =>
    refine .sl rows _ x (hd.mono (fun _ _ _ => rfl) (fun b off h => im_shift h) (fun _ _ _ => rfl) (fun _ _ h => h)) ?_
    cases t with
    | none => trivial
    | exact => exact ht
    | own o =>
      rcases ht with ⟨l, h1, h2⟩ | ⟨b, l, c, sz, ex, h1, h2⟩
      · exact .inl ⟨l, bl_shift h1, h2⟩
      · exact .inr ⟨b, l, c, sz, ex, bl_shift h1, h2⟩
  | agg cs vs hl h1 _ ih =>
    refine .agg _ vs (by rw [shiftL_length]; exact hl) h1 (fun i c v hc hv => ?_)
    obtain ⟨x, hx, rfl⟩ := shiftL_get _ hc
    exact ih i x v hx hv
  | tup cs vs hl _ ih =>
    refine .tup _ vs (by rw [shiftL_length]; exact hl) (fun i c v hc hv => ?_)
    obtain ⟨x, hx, rfl⟩ := shiftL_get _ hc
    exact ih i x v hx hv
  | ptr o off b h => exact .ptr _ off b (bl_shift h)
  | ep rows i off t b st sz h c ht =>
    refine .ep rows i off _ b st sz (h.mono (fun _ _ _ => rfl) (fun b off h => im_shift h) (fun _ _ _ => rfl) (fun _ _ h => h)) c ?_
    cases t with
    | none => trivial
    | exact => exact ht
    | own o =>
      rcases ht with ⟨l, h1, h2⟩ | ⟨b, l, c, sz, ex, h1, h2⟩
      · exact .inl ⟨l, bl_shift h1, h2⟩
      · exact .inr ⟨b, l, c, sz, ex, bl_shift h1, h2⟩
  | bsl o off len cap b h h1 h2 => exact .bsl _ off len cap b (bl_shift h) h1 h2
  | bsl0 o off cap a h2 => exact .bsl0 _ off cap a h2
  | map o b h => exact .map _ b (bl_shift h)
  | fn f first cap vf vc h1 h2 _ _ ih1 ih2 =>
    refine .fn f _ _ vf vc (by rw [shiftL_length]; exact h1) (by rw [shiftL_length]; exact h2) (fun i c v hc hv => ?_) (fun i c v hc hv => ?_)
    · obtain ⟨x, hx, rfl⟩ := shiftL_get _ hc
      exact ih1 i x v hx hv
    · obtain ⟨x, hx, rfl⟩ := shiftL_get _ hc
      exact ih2 i x v hx hv

def AEnd.shift (n : Nat) : AEnd → AEnd
  | .ret x => .ret (x.shift n)
  | .pan x => .pan (x.shift n)

theorem ACall.frame {P : Program} {f : Nat} {args : List AV} {R : AEnd → List Obj → Prop} (h : ACall P f args [] R) (ha : AV.idsLtL 0 args = true) (objs : List Obj) :
    ACall P f args objs (fun ae o => ∃ ae0 o0, R ae0 o0 ∧ ae = ae0.shift objs.length ∧ o = objs ++ o0.map (Obj.shift objs.length)) := by
  intro G w vs hm hc
  have hm0 : Mem ⟨[], G.imm⟩ [] w := ⟨rfl, fun o x g h => by simp at h, fun o o' g g' b h => by simp at h, fun o g b h => by simp at h, hm.immLt⟩
  have hc0 : ConcL ⟨[], G.imm⟩ w args vs := ⟨hc.1, fun i x v hx hv => by
    have := (hc.2 i x v hx hv).trunc (n := 0) (belowL_get ha i x hx)
    simpa using this⟩
  refine (h ⟨[], G.imm⟩ w vs hm0 hc0).mono ?_
  rintro e w' ⟨ae0, o0, G', hR, hm', hst, hend⟩
  have hold : ∀ b, b < w.heap.size → w'.heap[b]? = w.heap[b]? := fun b hb => hst.heap b hb (fun o g hg => by simp at hg)
  have himm : ∀ b off, b < w.heap.size → G'.imm b off → G.imm b off := by
    intro b off hb hi
    rcases hst.imm2 b off hi with h | h | ⟨o, g, h, _⟩
    · exact h
    · omega
    · simp at h
  have hnew : ∀ (o : Nat) (g : GB) (b : Nat), G'.bl[o]? = some g → g.blk = some b → w.heap.size ≤ b := by
    intro o g b hg hb
    rcases hst.blk o g b hg hb with h | ⟨o', g', h, _⟩
    · exact h
    · simp at h
  have key : ∀ (o : Nat) (g : GB), G.bl[o]? = some g → (G.bl ++ G'.bl)[o]? = some g := by
    intro o g hg
    have hl : o < G.bl.length := by
      rcases Nat.lt_or_ge o G.bl.length with h | h
      · exact h
      · rw [List.getElem?_eq_none h] at hg; cases hg
    rw [List.getElem?_append_left hl]; exact hg
  have part : ∀ (o : Nat) (g : GB), (G.bl ++ G'.bl)[o]? = some g → (o < G.bl.length ∧ G.bl[o]? = some g) ∨ (∃ j, o = G.bl.length + j ∧ G'.bl[j]? = some g) := by
    intro o g hg
    rcases Nat.lt_or_ge o G.bl.length with hl | hl
    · rw [List.getElem?_append_left hl] at hg; exact .inl ⟨hl, hg⟩
    · rw [List.getElem?_append_right hl] at hg; exact .inr ⟨o - G.bl.length, by omega, hg⟩
  have hext : Ext G w ⟨G.bl ++ G'.bl, G'.imm⟩ w' :=
    ⟨fun t b off hi => cell_of_heap (hold b (hm.imLt t b off hi)) off, im_of_sub key (fun b off h => hst.ext.imm b off h), fun o b h => key o _ h, fun o l h => .inl (key o _ h), fun o b l c sz ex h => ⟨b, l, c, sz, ex, key o _ h, .inr ⟨rfl, rfl, rfl⟩⟩⟩
  refine ⟨ae0.shift objs.length, objs ++ o0.map (Obj.shift objs.length), ⟨G.bl ++ G'.bl, G'.imm⟩, ⟨ae0, o0, hR, rfl, rfl⟩, ?_, ?_, ?_⟩
  · refine ⟨by simp [hm.len, hm'.len], ?_, ?_, ?_, hm'.immLt⟩
    · intro o x g hx hg
      rcases part o g hg with ⟨hl, hg'⟩ | ⟨j, rfl, hg'⟩
      · rw [List.getElem?_append_left (by rw [← hm.len]; exact hl)] at hx
        exact (hm.ok o x g hx hg').mono hext (fun b hb => hold b (hm.lt o g b hg' hb)) (fun b hb off hi => himm b off (hm.lt o g b hg' hb) hi)
      · rw [hm.len, List.getElem?_append_right (Nat.le_add_right _ _), Nat.add_sub_cancel_left, List.getElem?_map] at hx
        cases hx0 : o0[j]? with
        | none => simp [hx0] at hx
        | some x0 =>
          simp only [hx0, Option.map_some, Option.some.injEq] at hx
          subst hx
          have hok := hm'.ok j x0 g hx0 hg'
          cases x0 with
          | box cells =>
            rcases hok with ⟨rfl, l, hl⟩ | ⟨b, c, e, h1, h2, h3, h4, h5⟩
            · exact .inl ⟨rfl, l, hl⟩
            · refine .inr ⟨b, c, e, h1, h2, by rw [shiftL_length]; exact h3, ?_, h5⟩
              intro i y v hy hv
              obtain ⟨x, hx, rfl⟩ := shiftL_get _ hy
              refine ⟨(h4 i x v hx hv).1, ?_⟩
              rw [← hm.len]; exact (h4 i x v hx hv).2.shift
          | tok l sz e ex => exact hok
          | map es =>
            obtain ⟨b, ents, clock, e1, e2, e3, e4, e5, e6⟩ := hok
            refine ⟨b, ents, clock, e1, e2, by simp [e3], fun i k y e hi he => ?_, e5, e6⟩
            rw [List.getElem?_map] at hi
            cases hes : es[i]? with
            | none => simp [hes] at hi
            | some p =>
              simp only [hes, Option.map_some, Option.some.injEq, Prod.mk.injEq] at hi
              obtain ⟨rfl, rfl⟩ := hi
              have := e4 i p.1 p.2 e hes he
              exact ⟨this.1, by rw [← hm.len]; exact this.2.1.shift, this.2.2⟩
          | mapB bs clock es =>
            obtain ⟨b, ents, e1, e2, e3, e4, e5, e7, e6⟩ := hok
            refine ⟨b, ents, e1, e2, by simp [e3], fun i k y e hi he => ?_, e5, e7, e6⟩
            rw [List.getElem?_map] at hi
            cases hes : es[i]? with
            | none => simp [hes] at hi
            | some p =>
              simp only [hes, Option.map_some, Option.some.injEq, Prod.mk.injEq] at hi
              obtain ⟨rfl, rfl⟩ := hi
              have := e4 i p.1 p.2 e hes he
              exact ⟨this.1, by rw [← hm.len]; exact this.2.1.shift, this.2.2⟩
          | iter m since seen =>
            obtain ⟨b, mb, e1, e2, e3, e4⟩ := hok
            exact ⟨b, mb, e1, by rw [← hm.len]; exact bl_shift e2, e3, e4⟩
          | bld e buf =>
            obtain ⟨b, c0, c1, e1, e2, e3, e4, e5, e6⟩ := hok
            exact ⟨b, c0, c1, e1, e2, e3, e4, by rw [← hm.len]; exact e5.shift, e6⟩
          | lin v sz e rows => exact hok
          | dead => exact hok
    · intro o o' g g' b h1 h2 e1 e2
      rcases part o g h1 with ⟨hl, k1⟩ | ⟨j, rfl, k1⟩ <;> rcases part o' g' h2 with ⟨hl', k2⟩ | ⟨j', rfl, k2⟩
      · exact hm.inj o o' g g' b k1 k2 e1 e2
      · have := hm.lt o g b k1 e1; have := hnew j' g' b k2 e2; omega
      · have := hm.lt o' g' b k2 e2; have := hnew j g b k1 e1; omega
      · rw [hm'.inj j j' g g' b k1 k2 e1 e2]
    · intro o g b h1 e1
      rcases part o g h1 with ⟨hl, k1⟩ | ⟨j, rfl, k1⟩
      · exact Nat.lt_of_lt_of_le (hm.lt o g b k1 e1) hst.size
      · exact hm'.lt j g b k1 e1
  · refine ⟨hext, fun k hk _ => hold k hk, hst.size, hst.os, hst.tape, hst.output, ?_, ?_⟩
    · intro b off hi
      rcases hst.imm2 b off hi with h | h | ⟨o, g, h, _⟩
      · exact .inl h
      · exact .inr (.inl h)
      · simp at h
    · intro o g b h1 e1
      rcases part o g h1 with ⟨hl, k1⟩ | ⟨j, rfl, k1⟩
      · exact .inr ⟨o, g, k1, e1⟩
      · exact .inl (hnew j g b k1 e1)
  · cases ae0 with
    | ret x =>
      cases e with
      | returned v => have := Conc.shift (bl := G.bl) hend; rw [hm.len] at this; rw [hm.len] at *; exact this
      | panicked chain => exact hend.elim
      | outgrown => exact hend.elim
    | pan x =>
      cases e with
      | returned v => exact hend.elim
      | panicked chain => obtain ⟨v, hv, hx⟩ := hend; have := Conc.shift (bl := G.bl) hx; rw [hm.len] at this; exact ⟨v, hv, this⟩
      | outgrown => exact hend.elim

end Go.Proofs.YtcpjmkbcefmldaaGreatDoor.AM

/- Contracts that give one answer; cuts. -/
namespace Go.Proofs.YtcpjmkbcefmldaaGreatDoor.AM
open Go

def Fun (P : Program) (f : Nat) (args : List AV) (x : AV) (o0 : List Obj) : Prop := ACall P f args [] (fun ae o => ae = .ret x ∧ o = o0)

section
variable {P : Program} {n0 : Nat} {Q : AX → AS → Prop} {E : AV → List Obj → Prop}

theorem call_fun {f : Nat} {args args' : List AV} {x : AV} {objs o0 : List Obj} {K : AV → List Obj → Prop} (hen : enters P f = true) (h : Fun P f args' x o0) (ha : AV.idsLtL 0 args' = true)
    (hle : AV.leL (AV.stripL args) args') (hk : K (x.shift (AV.pubL objs args).length) (AV.pubL objs args ++ o0.map (Obj.shift (AV.pubL objs args).length))) : callAV P f args objs K E := by
  refine ⟨hen, ACall.strip (ACall.le hle (ACall.mono (ACall.frame h ha _) ?_))⟩
  rintro ae o ⟨ae0, o0', ⟨rfl, rfl⟩, rfl, rfl⟩
  exact hk

theorem loopQ_exit {I : Nat → AS → Prop} {n i : Nat} {s : AS} : loopQ n0 I n Q (.exit i) s = Q (.exit i) s := rfl
theorem loopQ_ret {I : Nat → AS → Prop} {n : Nat} {s : AS} : loopQ n0 I n Q .ret s = Q .ret s := rfl
theorem w64 {n : Int} (h : -9223372036854775808 ≤ n ∧ n ≤ 9223372036854775807) : IntKind.i64.wrap n = n := IntWalk.i64_in n h
theorem Fun.of_awp {f : Nat} {fn : Func} {c : Code} {args : List AV} {x : AV} {o0 : List Obj} (hf : P.funcs[f]? = some fn) (hb : fn.body = some c)
    (h : awp P 0 c ⟨args ++ List.replicate (fn.ntmps - args.length) .any, []⟩ (bodyQ P 0 fn.results.toList (fun ae o => ae = .ret x ∧ o = o0)) (fun _ _ => False)) : Fun P f args x o0 :=
  ACall.of_awp hf hb (by
    have e : (fun (x' : AV) (objs' : List Obj) => (AEnd.pan x' = AEnd.ret x ∧ objs' = o0)) = (fun _ _ => False) := by
      funext x' o; simp
    rw [e]; exact h)
end

end Go.Proofs.YtcpjmkbcefmldaaGreatDoor.AM

/- A row of one's own that is written: out of the pure rows, and back. -/
namespace Go.Proofs.YtcpjmkbcefmldaaGreatDoor.AM
open Go

def rowCells (rows : List (List D)) : List AV := rows.flatten.map .ofD

theorem Step.trunc {G0 G : Ghost} {w0 w : World} {n : Nat} (h : Step G0 w0 G w) (hn : G0.bl.length ≤ n) : Step G0 w0 ⟨G.bl.take n, G.imm⟩ w := by
  have key : ∀ (o : Nat) (g : GB), G0.bl[o]? = some g → o < n := by
    intro o g hg
    have : o < G0.bl.length := by
      rcases Nat.lt_or_ge o G0.bl.length with h | h
      · exact h
      · rw [List.getElem?_eq_none h] at hg; cases hg
    omega
  refine ⟨⟨h.ext.cells, ?_, fun o b h' => take_get (key o _ h') (h.ext.obj o b h'), ?_, ?_⟩, h.heap, h.size, h.os, h.tape, h.output, h.imm2, ?_⟩
  · intro t b off ht
    have h' := h.ext.im t b off ht
    rcases im_cases ht with hi | ⟨o, len, cap, sz, rfl, h1, _⟩
    · exact Ghost.imm_im _ t (h.ext.imm b off hi)
    · exact im_trunc (by simp only [Tk.idsLt, decide_eq_true_eq]; exact key o _ h1) h'
  · intro o l h1
    rcases h.ext.full o l h1 with h' | ⟨b, l', c, sz, ex, h', hlt⟩
    · exact .inl (take_get (key o _ h1) h')
    · exact .inr ⟨b, l', c, sz, ex, take_get (key o _ h1) h', hlt⟩
  · intro o b l c sz ex h1
    obtain ⟨b', l', c', sz', ex', h', hx⟩ := h.ext.tok o b l c sz ex h1
    exact ⟨b', l', c', sz', ex', take_get (key o _ h1) h', hx⟩
  · intro o g b h1 hb
    exact h.blk o g b (take_get' h1).2 hb

theorem flat_of_row {α : Type} {sz : Nat} : ∀ {rows : List (List α)} {i j : Nat} {r : List α} {d : α}, (∀ (i : Nat) (r : List α), rows[i]? = some r → r.length = sz) → rows[i]? = some r → r[j]? = some d → rows.flatten[i * sz + j]? = some d
  | [], i, j, r, d, _, h, _ => by simp at h
  | r0 :: rows, i, j, r, d, hl, h, hj => by
    have h0 := hl 0 r0 rfl
    cases i with
    | zero =>
      simp at h; subst h
      have hjl : j < r0.length := by
        rcases Nat.lt_or_ge j r0.length with h | h
        · exact h
        · rw [List.getElem?_eq_none h] at hj; cases hj
      rw [List.flatten_cons, List.getElem?_append_left (by omega)]
      simpa using hj
    | succ i =>
      rw [List.flatten_cons, List.getElem?_append_right (by rw [Nat.succ_mul]; omega)]
      have := flat_of_row (fun i r h => hl (i + 1) r (by simpa using h)) (by simpa using h) hj
      rw [show (i + 1) * sz + j - r0.length = i * sz + j from by rw [Nat.succ_mul]; omega]
      exact this

theorem cell_cells {w : World} {b : Nat} {c : Array Value} {e : TypeId} {t : Nat × Nat} (h : w.heap[b]? = some (.cells c e t)) (o : Nat) : w.cell? ⟨b, o, none⟩ = c[o]? := by
  simp [World.cell?, h]

theorem conc_ofD {G : Ghost} {w : World} {d : D} {v : Value} (h : Conc G w (.ofD d) v) : DConc w G.imm d v := by
  cases d with
  | v x => cases h with | v _ h => exact .v _ h
  | sl rows => cases h with | sl _ _ _ h _ => exact DConc.sl_iff.2 h

theorem rowCells_len {rows : List (List D)} {sz : Nat} (h : ∀ (i : Nat) (r : List D), rows[i]? = some r → r.length = sz) : (rowCells rows).length = rows.length * sz := by
  rw [rowCells, List.length_map, flat_len h]

theorem Weak.unbox {n0 : Nat} {tmps : List AV} {objs : List Obj} (i : Nat) {rows : List (List D)} {n sz e : Nat} (hi : tmps[i]? = some (.sl rows (.own objs.length))) (hn : rows.length = n)
    (hn0 : n0 ≤ objs.length) (h1 : AV.idsLtL objs.length (tmps.set i .any) = true) (h2 : belowObjs objs.length objs = true) :
    Weak n0 ⟨tmps, objs ++ [.tok n sz e true]⟩ ⟨tmps.set i (.bsl objs.length 0 n), objs ++ [.box (rowCells rows)]⟩ := by
  intro G0 w0 G a w hl0 hf
  have hm := hf.sat.mem
  have hlen : G.bl.length = objs.length + 1 := by rw [hm.len]; simp
  have hst := hf.step.trunc (n := objs.length) (by omega)
  have hm' := hm.trunc h2
  have htl : (G.bl.take objs.length).length = objs.length := by simp; omega
  have htm : ConcL ⟨G.bl.take objs.length, G.imm⟩ w (tmps.set i .any) a.tmps.toList := by
    have := (hf.sat.tmps.set i (x := .any) (v := a.tmps.toList[i]?.getD undef) (.any _))
    have hself : a.tmps.toList.set i (a.tmps.toList[i]?.getD undef) = a.tmps.toList := by
      cases hq : a.tmps.toList[i]? with
      | none => rw [List.set_eq_of_length_le]; exact List.getElem?_eq_none_iff.1 hq
      | some v => exact list_set_self (by simpa using hq)
    rw [hself] at this
    exact ⟨this.1, fun j x v hx hv => (this.2 j x v hx hv).trunc (belowL_get h1 j x hx)⟩
  have hil : i < a.tmps.toList.length := by
    rw [hf.sat.tmps.1]
    rcases Nat.lt_or_ge i tmps.length with hl | hl
    · exact hl
    · rw [List.getElem?_eq_none hl] at hi; cases hi
  have hv := hf.sat.tmps.2 i _ _ hi (List.getElem?_eq_getElem hil)
  obtain ⟨g, hg, hok⟩ := hm.obj (o := objs.length) (x := .tok n sz e true) (by simp)
  cases hv with
  | sl _ _ _ hd ht =>
    have fin : ∀ (g' : GB), (∀ b, g'.blk = some b → w0.heap.size ≤ b ∨ ∃ (o : Nat) (g : GB), G0.bl[o]? = some g ∧ g.blk = some b) →
        (∀ b, g'.blk = some b → b < w.heap.size ∧ ∀ (o : Nat) (g'' : GB), (G.bl.take objs.length)[o]? = some g'' → g''.blk ≠ some b) →
        ObjOk ⟨G.bl.take objs.length ++ [g'], G.imm⟩ w g' (.box (rowCells rows)) →
        Conc ⟨G.bl.take objs.length ++ [g'], G.imm⟩ w (.bsl objs.length 0 n) a.tmps.toList[i] →
        From G0 w0 ⟨G.bl.take objs.length ++ [g'], G.imm⟩ ⟨tmps.set i (.bsl objs.length 0 n), objs ++ [.box (rowCells rows)]⟩ a w := by
      intro g' hb1 hb2 hob hcv
      have hext : Ext ⟨G.bl.take objs.length, G.imm⟩ w ⟨G.bl.take objs.length ++ [g'], G.imm⟩ w := ext_push ⟨G.bl.take objs.length, G.imm⟩ w g'
      refine ⟨⟨hst.ext.trans hext, hst.heap, hst.size, hst.os, hst.tape, hst.output, hst.imm2, ?_⟩, Mem.push (G := ⟨G.bl.take objs.length, G.imm⟩) hm' hob hb2, ?_, hf.sat.defers⟩
      · intro o g'' b hg'' hbb
        rcases Nat.lt_or_ge o objs.length with hl | hl
        · rw [List.getElem?_append_left (by omega)] at hg''
          exact hst.blk o g'' b hg'' hbb
        · rw [List.getElem?_append_right (by omega)] at hg''
          cases hz : o - (G.bl.take objs.length).length with
          | zero => rw [hz] at hg''; simp at hg''; subst hg''; exact hb1 b hbb
          | succ m => rw [hz] at hg''; simp at hg''
      · have hmono := htm.mono hext
        have hset := hmono.set i hcv
        have hself : a.tmps.toList.set i a.tmps.toList[i] = a.tmps.toList := list_set_self (List.getElem?_eq_getElem hil)
        rw [hself] at hset
        simpa using hset
    rcases hok with ⟨rfl, hex⟩ | ⟨b, cap, cur, rfl, hh, hc1, hc2, hc3, hc4, _⟩
    · have hn' : n = 0 := hex rfl
      subst hn'
      have hr : rows = [] := List.eq_nil_of_length_eq_zero hn
      subst hr
      refine ⟨⟨G.bl.take objs.length ++ [.full 0], G.imm⟩, fin _ (by intro b hb; cases hb) (by intro b hb; cases hb) (.inl ⟨rfl, 0, rfl⟩) ?_⟩
      obtain ⟨a', c', he, hc, hmx, _⟩ := hd
      rw [he]
      exact .bsl0 _ _ _ _ hmx
    · refine ⟨⟨G.bl.take objs.length ++ [.obj b], G.imm⟩, fin _ ?_ ?_ ?_ ?_⟩
      · intro b' hb'
        simp [GB.blk] at hb'; subst hb'
        exact hf.step.blk _ _ _ hg rfl
      · intro b' hb'
        simp [GB.blk] at hb'; subst hb'
        refine ⟨hm.lt _ _ _ hg rfl, fun o g'' hg'' hbb => ?_⟩
        obtain ⟨hol, hg3⟩ := take_get' hg''
        have := hm.inj _ _ _ _ _ hg3 hg hbb rfl
        omega
      · obtain ⟨a', c', he, hc, hmx, hrow⟩ := hd
        have hv2 : a.tmps.toList[i] = .slice (some ⟨b, 0, none⟩) n cap := by
          rcases ht with ⟨l, k1, _⟩ | ⟨b', l, c, sz', ex, k1, k2, k3⟩
          · rw [hg] at k1; cases k1
          · rw [hg] at k1; cases k1; exact k3 hn
        refine .inr ⟨b, cur, e, rfl, hh, ?_, ?_, hc4 rfl⟩
        · rcases hrow with rfl | ⟨b2, st, s2, ha, hr1, hr2⟩
          · simp [rowCells]
          · rw [hv2] at he; cases he; cases ha
            rcases Nat.eq_zero_or_pos (rowCells rows).length with h0 | h0
            · omega
            · have hlt : (rowCells rows).length - 1 < rows.flatten.length := by simp only [rowCells, List.length_map] at h0 ⊢; omega
              obtain ⟨p, q, r, k1, k2, k3⟩ := flat_get hr1 (List.getElem?_eq_getElem hlt)
              obtain ⟨x, hx, _⟩ := hr2 p q r _ k1 k2
              simp only [Nat.zero_add, ← k3] at hx
              have := cell_cells hh ((rowCells rows).length - 1)
              rw [this] at hx
              rcases Nat.lt_or_ge ((rowCells rows).length - 1) cur.size with hz | hz
              · omega
              · rw [Array.getElem?_eq_none hz] at hx; cases hx
        · intro j x v hj hv
          rcases hrow with rfl | ⟨b2, st, s2, ha, hr1, hr2⟩
          · simp [rowCells] at hj
          · rw [hv2] at he; cases he; cases ha
            simp only [rowCells, List.getElem?_map] at hj
            cases hd : rows.flatten[j]? with
            | none => simp [hd] at hj
            | some d =>
              simp only [hd, Option.map_some, Option.some.injEq] at hj
              subst hj
              obtain ⟨p, q, r, k1, k2, k3⟩ := flat_get hr1 hd
              obtain ⟨x', hx, _, hdc⟩ := hr2 p q r _ k1 k2
              simp only [Nat.zero_add, ← k3] at hx
              rw [cell_cells hh j, hv] at hx
              cases hx
              exact ⟨hdc.one, ofD_conc (G := ⟨G.bl.take objs.length ++ [.obj b], G.imm⟩) hdc⟩
      · have hv2 : a.tmps.toList[i] = .slice (some ⟨b, 0, none⟩) n cap := by
          rcases ht with ⟨l, k1, _⟩ | ⟨b', l, c, sz', ex, k1, k2, k3⟩
          · rw [hg] at k1; cases k1
          · rw [hg] at k1; cases k1; exact k3 hn
        rw [hv2]
        exact .bsl _ _ _ _ b (by rw [List.getElem?_append_right (by omega)]; simp [htl]) hc2 hc3

theorem Weak.pubbox {n0 : Nat} {tmps : List AV} {objs : List Obj} (i : Nat) {rows : List (List D)} {n sz : Nat} (hi : tmps[i]? = some (.bsl objs.length 0 n)) (hn : rows.length = n)
    (hsz : ∀ r ∈ rows, r.length = sz)
    (hn0 : n0 ≤ objs.length) (h1 : AV.idsLtL objs.length (tmps.set i .any) = true) (h2 : belowObjs objs.length objs = true) :
    Weak n0 ⟨tmps, objs ++ [.box (rowCells rows)]⟩ ⟨tmps.set i (.sl rows .none), objs⟩ := by
  intro G0 w0 G a w hl0 hf
  have hm := hf.sat.mem
  have hlen : G.bl.length = objs.length + 1 := by rw [hm.len]; simp
  have hst := hf.step.trunc (n := objs.length) (by omega)
  have hm' := hm.trunc h2
  have hszr : ∀ (i : Nat) (r : List D), rows[i]? = some r → r.length = sz := fun i r h => hsz r (List.mem_of_getElem? h)
  have htm : ConcL ⟨G.bl.take objs.length, G.imm⟩ w (tmps.set i .any) a.tmps.toList := by
    have := (hf.sat.tmps.set i (x := .any) (v := a.tmps.toList[i]?.getD undef) (.any _))
    have hself : a.tmps.toList.set i (a.tmps.toList[i]?.getD undef) = a.tmps.toList := by
      cases hq : a.tmps.toList[i]? with
      | none => rw [List.set_eq_of_length_le]; exact List.getElem?_eq_none_iff.1 hq
      | some v => exact list_set_self (by simpa using hq)
    rw [hself] at this
    exact ⟨this.1, fun j x v hx hv => (this.2 j x v hx hv).trunc (belowL_get h1 j x hx)⟩
  have hil : i < a.tmps.toList.length := by
    rw [hf.sat.tmps.1]
    rcases Nat.lt_or_ge i tmps.length with hl | hl
    · exact hl
    · rw [List.getElem?_eq_none hl] at hi; cases hi
  have hself : a.tmps.toList.set i a.tmps.toList[i] = a.tmps.toList := list_set_self (List.getElem?_eq_getElem hil)
  have hv := hf.sat.tmps.2 i _ _ hi (List.getElem?_eq_getElem hil)
  obtain ⟨g, hg, hok⟩ := hm.obj (o := objs.length) (x := .box (rowCells rows)) (by simp)
  generalize a.tmps.toList[i] = v at hv hself
  have empty : rows = [] → ∃ G', From G0 w0 G' ⟨tmps.set i (.sl rows .none), objs⟩ a w := by
    intro hr
    refine ⟨⟨G.bl.take objs.length, G.imm⟩, hst, hm', ?_, hf.sat.defers⟩
    have hc : Conc ⟨G.bl.take objs.length, G.imm⟩ w (.sl rows .none) v := by
      subst hr
      subst hn
      cases hv with
      | bsl _ _ _ cap b h h1 h2 => exact .sl _ _ _ (SlC.nil _ _ h2) trivial
      | bsl0 _ _ cap a h2 => exact .sl _ _ _ (SlC.nil _ _ h2) trivial
    have := htm.set i hc
    rw [hself] at this
    simpa using this
  rcases Nat.eq_zero_or_pos rows.length with hz | hpos
  · exact empty (List.eq_nil_of_length_eq_zero hz)
  cases hv with
  | bsl0 _ _ cap a h2 => omega
  | bsl _ _ _ cap b hb hcap hmx =>
    rw [hb] at hg; cases hg
    rcases hok with ⟨hce, l, hl⟩ | ⟨b', c, e, hbe, hh, hs, hc, him⟩
    · cases hl
    cases hbe
    let imm' : Nat → Nat → Prop := fun b' off => G.imm b' off ∨ (b' = b ∧ off < (rowCells rows).length)
    have hsub : ∀ b' off, G.imm b' off → imm' b' off := fun _ _ h => .inl h
    have hblk : b < w.heap.size := hm.lt _ _ _ hb rfl
    have hother : ∀ (o : Nat) (g : GB) (b' : Nat), (G.bl.take objs.length)[o]? = some g → g.blk = some b' → b' ≠ b := by
      rintro o g b' hg hbb rfl
      obtain ⟨hol, hg3⟩ := take_get' hg
      have := hm.inj _ _ _ _ _ hg3 hb hbb rfl
      omega
    have hext : Ext ⟨G.bl.take objs.length, G.imm⟩ w ⟨G.bl.take objs.length, imm'⟩ w :=
      ⟨fun _ _ _ _ => rfl, im_of_sub (fun _ _ h => h) hsub, fun _ _ h => h, fun _ _ h => .inl h, fun _ b l c sz ex h => ⟨b, l, c, sz, ex, h, .inr ⟨rfl, rfl, rfl⟩⟩⟩
    refine ⟨⟨G.bl.take objs.length, imm'⟩, ⟨hst.ext.trans hext, hst.heap, hst.size, hst.os, hst.tape, hst.output, ?_, hst.blk⟩, ⟨hm'.len, ?_, hm'.inj, hm'.lt, ?_⟩, ?_, hf.sat.defers⟩
    · rintro b' off (h | ⟨rfl, _⟩)
      · exact hst.imm2 b' off h
      · exact .inr (hf.step.blk _ _ _ hb rfl)
    · intro o x g hx hg
      refine (hm'.ok o x g hx hg).mono hext (fun _ _ => rfl) ?_
      intro b' hbb off h
      rcases h with h | ⟨rfl, _⟩
      · exact h
      · exact (hother o g _ hg hbb rfl).elim
    · refine ⟨?_, hm'.gl hext⟩
      rintro b' off (h | ⟨rfl, _⟩)
      · exact hm.immLt.1 b' off h
      · exact hblk
    · have hfl := flat_len hszr
      have hcv : Conc ⟨G.bl.take objs.length, imm'⟩ w (.sl rows .none) (.slice (some ⟨b, 0, none⟩) n cap) := by
        refine .sl rows .none _ ⟨_, cap, by rw [hn], by omega, hmx, .inr ⟨b, 0, sz, rfl, hszr, ?_⟩⟩ trivial
        intro p q r d hr hd
        have hq : q < sz := by
          rw [← hszr p r hr]
          rcases Nat.lt_or_ge q r.length with h | h
          · exact h
          · rw [List.getElem?_eq_none h] at hd; cases hd
        have hp : p < rows.length := by
          rcases Nat.lt_or_ge p rows.length with h | h
          · exact h
          · rw [List.getElem?_eq_none h] at hr; cases hr
        have hpq : p * sz + q < rows.length * sz := by
          have : p * sz + sz ≤ rows.length * sz := by rw [← Nat.succ_mul]; exact Nat.mul_le_mul_right sz hp
          omega
        have hfg : rows.flatten[p * sz + q]? = some d := flat_of_row hszr hr hd
        have hcell : (rowCells rows)[p * sz + q]? = some (.ofD d) := by rw [rowCells, List.getElem?_map, hfg]; rfl
        have hlt : p * sz + q < c.size := by
          have : (rowCells rows).length = rows.length * sz := rowCells_len hszr
          omega
        obtain ⟨e1, e2⟩ := hc _ _ _ hcell (Array.getElem?_eq_getElem hlt)
        refine ⟨c[p * sz + q], ?_, (show imm' b (0 + p * sz + q) from Or.inr ⟨rfl, ?_⟩), ?_⟩
        · rw [cell_cells hh]; simp [hlt]
        · rw [rowCells_len hszr]; omega
        · have hd2 := conc_ofD e2
          exact hd2.mono (fun _ _ _ => rfl) hsub
      have hset := (htm.mono hext).set i hcv
      rw [hself] at hset
      simpa using hset

end Go.Proofs.YtcpjmkbcefmldaaGreatDoor.AM
namespace Go.Proofs.YtcpjmkbcefmldaaGreatDoor.AM
open Go
end Go.Proofs.YtcpjmkbcefmldaaGreatDoor.AM

/- Several results at once. -/
namespace Go.Proofs.YtcpjmkbcefmldaaGreatDoor.AM
open Go
theorem Weak.tup {n0 : Nat} {xs ys : List AV} {objs : List Obj} (h : AV.leL xs ys) : Weak n0 ⟨[.tup xs], objs⟩ ⟨[.tup ys], objs⟩ := by
  intro G0 w0 G a w hn hf
  refine ⟨G, hf.step, hf.sat.mem, ?_, hf.sat.defers⟩
  refine ⟨hf.sat.tmps.1, fun i x v hx hv => ?_⟩
  match i with
  | 0 =>
    simp only [List.getElem?_cons_zero, Option.some.injEq] at hx
    subst hx
    have := hf.sat.tmps.2 0 _ v rfl hv
    cases this with
    | tup _ vs hl hc =>
      obtain ⟨h1, h2⟩ := AV.leL_sound h ⟨hl, hc⟩
      exact .tup _ vs h1 h2
  | n + 1 => simp at hx
section
variable {P : Program} {ops rest : List Oper} {o : Oper} {s : AS} {K : AS → Prop} {E : AV → List Obj → Prop}
end
end Go.Proofs.YtcpjmkbcefmldaaGreatDoor.AM

/- What comes in, read as data, in abstract terms; and a law's row out of a function's contract. -/
namespace Go.Proofs.YtcpjmkbcefmldaaGreatDoor.AM
open Go Go.RowKit Go.WideShapes Go.ChangeShapes

def packed (P : Program) : Nat → List Field → Option Nat
  | n, [] => some n
  | n, f :: fs => if f.offset = n then packed P (n + P.cellsOf f.type) fs else none

def plainTy (P : Program) : Nat → TypeId → Bool
  | 0, _ => false
  | n + 1, t =>
    match P.underlying t with
    | some .bool => true
    | some (.int _) => true
    | some .string => true
    | some (.slice e) => decide (0 < P.cellsOf e) && plainTy P n e
    | some (.struct fs) => decide (packed P 0 fs.toList = some (P.cellsOf t)) && fs.toList.all fun f => plainTy P n f.type
    | some (.array m e) => decide (P.cellsOf t = m * P.cellsOf e) && plainTy P n e
    | _ => false

def shFs (sh : TypeId → List D → Prop) : List Field → List D → Prop
  | [], ds => ds = []
  | f :: fs, ds => ∃ a b, ds = a ++ b ∧ sh f.type a ∧ shFs sh fs b
def shN (sh : List D → Prop) : Nat → List D → Prop
  | 0, ds => ds = []
  | n + 1, ds => ∃ a b, ds = a ++ b ∧ sh a ∧ shN sh n b

def shD (P : Program) : Nat → TypeId → List D → Prop
  | 0, _, _ => False
  | n + 1, t, ds =>
    match P.underlying t with
    | some .bool => ∃ b, ds = [.v (.bool b)]
    | some (.int k) => ∃ i, ds = [.v (.int k i)] ∧ k.min ≤ i ∧ i ≤ k.max
    | some .string => ∃ s : ByteArray, ds = [.v (.string s)] ∧ s.size ≤ maxLen
    | some (.slice e) => ∃ rows, ds = [.sl rows] ∧ rows.length ≤ maxLen ∧ ∀ r ∈ rows, shD P n e r
    | some (.struct fs) => shFs (shD P n) fs.toList ds
    | some (.array m e) => shN (shD P n e) m ds
    | _ => False

section
variable {P : Program} {n : Nat} {t : TypeId} {ds : List D}
theorem shD_bool (hu : P.underlying t = some .bool) (h : shD P (n + 1) t ds) : ∃ b, ds = [.v (.bool b)] := by simpa only [shD, hu] using h
theorem shD_int {k : IntKind} (hu : P.underlying t = some (.int k)) (h : shD P (n + 1) t ds) : ∃ i, ds = [.v (.int k i)] ∧ k.min ≤ i ∧ i ≤ k.max := by simpa only [shD, hu] using h
theorem shD_str (hu : P.underlying t = some .string) (h : shD P (n + 1) t ds) : ∃ s : ByteArray, ds = [.v (.string s)] ∧ s.size ≤ maxLen := by simpa only [shD, hu] using h
theorem shD_sl {e : TypeId} (hu : P.underlying t = some (.slice e)) (h : shD P (n + 1) t ds) : ∃ rows, ds = [.sl rows] ∧ rows.length ≤ maxLen ∧ ∀ r ∈ rows, shD P n e r := by simpa only [shD, hu] using h
theorem shD_st {fs : Array Field} (hu : P.underlying t = some (.struct fs)) (h : shD P (n + 1) t ds) : shFs (shD P n) fs.toList ds := by simpa only [shD, hu] using h
end

def oldImm (w : World) : Nat → Nat → Prop := fun b _ => b < w.heap.size
def Tells (w : World) (ds : List D) (cs : List Value) : Prop := ds.length = cs.length ∧ ∀ (i : Nat) (c : Value) (d : D), cs[i]? = some c → ds[i]? = some d → DConc w (oldImm w) d c

theorem Tells.append {w : World} {a b : List D} {cs ds : List Value} (h : Tells w a cs) (k : Tells w b ds) : Tells w (a ++ b) (cs ++ ds) := by
  refine ⟨by simp [h.1, k.1], fun i c d hc hd => ?_⟩
  rcases Nat.lt_or_ge i cs.length with hi | hi
  · rw [List.getElem?_append_left hi] at hc
    rw [List.getElem?_append_left (by rw [h.1]; exact hi)] at hd
    exact h.2 i c d hc hd
  · rw [List.getElem?_append_right hi] at hc
    rw [List.getElem?_append_right (by rw [h.1]; exact hi), h.1] at hd
    exact k.2 _ c d hc hd

theorem Tells.one {w : World} {d : D} {c : Value} (h : DConc w (oldImm w) d c) : Tells w [d] [c] := by
  refine ⟨rfl, fun i c' d' hc hd => ?_⟩
  cases i with
  | zero => cases hc; cases hd; exact h
  | succ i => simp at hc

theorem cells?_spec {w : World} {base : Nat} {a : Addr} {n : Nat} {cs : List Value} (h : w.cells? base a n = some cs) : cs.length = n ∧ ∀ i, i < n → w.cell? (a.add i) = cs[i]? := by
  unfold World.cells? at h
  split at h
  · have key : ∀ (l : List Nat) (cs : List Value), (l.mapM fun i => w.cell? (a.add i)) = some cs → cs.length = l.length ∧ ∀ (i j : Nat), l[i]? = some j → w.cell? (a.add j) = cs[i]? := by
      intro l
      induction l with
      | nil => intro cs h; simp at h; subst h; simp
      | cons x l ih =>
        intro cs h
        simp only [List.mapM_cons, Option.bind_eq_bind, Option.bind_eq_some_iff, Option.pure_def, Option.some.injEq] at h
        obtain ⟨c, hc, ds, hds, rfl⟩ := h
        obtain ⟨h1, h2⟩ := ih ds hds
        refine ⟨by simp [h1], fun i j hj => ?_⟩
        cases i with
        | zero => simp at hj; subst hj; simpa using hc
        | succ i => simp at hj; simpa using h2 i j hj
    obtain ⟨h1, h2⟩ := key _ _ h
    refine ⟨by simpa using h1, fun i hi => h2 i i (by simp [hi])⟩
  · cases h

theorem cell_lt {w : World} {a : Addr} {v : Value} (h : w.cell? a = some v) : a.block < w.heap.size := by
  rcases Nat.lt_or_ge a.block w.heap.size with hl | hl
  · exact hl
  · have : w.heap[a.block]? = none := Array.getElem?_eq_none hl
    simp [World.cell?, this] at h

section
variable {H : Type} {enc : TypeId × Value → H} {P : Program} {w : World} {base : Nat} {spare : Nat → Bool} {held : Bool}

theorem trod_plain : ∀ (n : Nat) (t : TypeId), plainTy P n t = true → ∀ (fuel : Nat) (cs : List Value) (x : DataW H × List MemPlace), DataW.trod enc P w base spare held fuel t cs = some x →
    ∃ ds, shD P n t ds ∧ Tells w ds cs
  | 0, _, h, _, _, _, _ => by cases h
  | n + 1, t, h, fuel, cs, x, hx => by
    unfold plainTy at h
    split at h
    · rename_i ht
      obtain ⟨b, rfl, _⟩ := DataW.trod_bool ht hx
      exact ⟨[.v (.bool b)], by simp only [shD, ht]; exact ⟨b, rfl⟩, .one (.v _ rfl)⟩
    · rename_i k ht
      obtain ⟨i, rfl, _, hw⟩ := DataW.trod_int ht hx
      simp only [Lit.wf, Bool.and_eq_true, decide_eq_true_eq] at hw
      exact ⟨[.v (.int k i)], by simp only [shD, ht]; exact ⟨i, rfl, hw.1, hw.2⟩, .one (.v _ rfl)⟩
    · rename_i ht
      obtain ⟨s, rfl, _, hs⟩ := DataW.trod_string ht hx
      exact ⟨[.v (.string s)], by simp only [shD, ht]; exact ⟨s, rfl, hs⟩, .one (.v _ rfl)⟩
    · rename_i e ht
      simp only [Bool.and_eq_true, decide_eq_true_eq] at h
      obtain ⟨h0, h1⟩ := h
      rcases DataW.trod_slice ht hx with ⟨rfl, _⟩ | ⟨a, len, cap, elems, rest, m, _, rfl, _, hb, hl, hm, hlen, hel, _, _⟩
      · exact ⟨[.sl []], by simp only [shD, ht]; exact ⟨[], rfl, Nat.zero_le _, by simp⟩, .one (.nil _ _ (Nat.zero_le _))⟩
      · have each : ∀ i, ∃ r cs', i < len → (w.cells? base (a.add (i * P.cellsOf e)) (P.cellsOf e) = some cs' ∧ shD P n e r ∧ Tells w r cs') := by
          intro i
          by_cases hi : i < len
          · have h2 := hel i hi
            rw [List.getElem?_eq_getElem (by omega), Option.bind_eq_some_iff] at h2
            obtain ⟨cs', h3, h4⟩ := h2
            obtain ⟨r, h5, h6⟩ := trod_plain n e h1 m cs' _ h4
            exact ⟨r, cs', fun _ => ⟨h3, h5, h6⟩⟩
          · exact ⟨[], [], fun h => absurd h hi⟩
        let rw_ : Nat → List D := fun i => Classical.choose (each i)
        let cw : Nat → List Value := fun i => Classical.choose (Classical.choose_spec (each i))
        have ew : ∀ i, i < len → (w.cells? base (a.add (i * P.cellsOf e)) (P.cellsOf e) = some (cw i) ∧ shD P n e (rw_ i) ∧ Tells w (rw_ i) (cw i)) := fun i => Classical.choose_spec (Classical.choose_spec (each i))
        let rows := (List.range len).map rw_
        have hrl : rows.length = len := by simp [rows]
        have hr : ∀ (i : Nat) (r : List D), rows[i]? = some r → i < len ∧ r = rw_ i := by
          intro i r hr
          have hi : i < len := by have := (List.getElem?_eq_some_iff.1 hr).1; rwa [hrl] at this
          refine ⟨hi, ?_⟩
          simp only [rows, List.getElem?_map, List.getElem?_range hi, Option.map_some, Option.some.injEq] at hr
          exact hr.symm
        refine ⟨[.sl rows], ?_, .one ?_⟩
        · simp only [shD, ht]
          refine ⟨rows, rfl, by omega, fun r hrm => ?_⟩
          obtain ⟨i, hi, rfl⟩ := List.mem_iff_getElem.1 hrm
          obtain ⟨h2, h3⟩ := hr i _ (List.getElem?_eq_getElem hi)
          rw [h3]; exact (ew i h2).2.1
        · rcases Nat.eq_zero_or_pos len with h00 | hpos
          · subst h00
            have : rows = [] := List.length_eq_zero_iff.1 hrl
            rw [this]
            exact .nil _ _ hm
          · have hspot : a = ⟨a.block, a.off, none⟩ := by
              obtain ⟨h2, h3, h4⟩ := ew 0 hpos
              obtain ⟨h5, h6⟩ := cells?_spec h2
              have h7 := h6 0 h0
              rw [List.getElem?_eq_getElem (by omega)] at h7
              simp only [Nat.zero_mul, Addr.add, if_true] at h7
              obtain ⟨b, o, sp⟩ := a
              unfold World.cell? at h7
              split at h7
              · cases sp
                · rfl
                · simp at h7
              · cases h7
            rw [hspot, ← hrl]
            have hcell : ∀ i j r d, rows[i]? = some r → r[j]? = some d → ∃ c, w.cell? ⟨a.block, a.off + i * P.cellsOf e + j, none⟩ = some c ∧ DConc w (oldImm w) d c := by
              intro i j r d hri hdj
              obtain ⟨hi, rfl⟩ := hr i r hri
              obtain ⟨h2, _, h3, h4⟩ := ew i hi
              obtain ⟨h5, h6⟩ := cells?_spec h2
              have hj : j < (rw_ i).length := (List.getElem?_eq_some_iff.1 hdj).1
              have hj2 : j < (cw i).length := by omega
              refine ⟨(cw i)[j], ?_, h4 j _ d (List.getElem?_eq_getElem hj2) hdj⟩
              have := h6 j (by omega)
              rw [List.getElem?_eq_getElem hj2] at this
              rw [← this]
              congr 1
              rw [hspot]
              rw [Addr.add_mk, Addr.add_mk]
            refine .sl (P.cellsOf e) rows a.block a.off cap (fun i j => (w.cell? ⟨a.block, a.off + i * P.cellsOf e + j, none⟩).getD undef) (by omega) hm ?_ ?_ ?_ ?_
            · intro i r hri
              obtain ⟨hi, rfl⟩ := hr i r hri
              obtain ⟨h2, _, h3, h4⟩ := ew i hi
              rw [h3]; exact (cells?_spec h2).1
            · intro i j r d hri hdj
              obtain ⟨c, hc, _⟩ := hcell i j r d hri hdj
              simp [hc]
            · intro i j r d hri hdj
              obtain ⟨c, hc, _⟩ := hcell i j r d hri hdj
              exact cell_lt (a := ⟨_, _, none⟩) hc
            · intro i j r d hri hdj
              obtain ⟨c, hc, hd⟩ := hcell i j r d hri hdj
              simpa [hc] using hd
    · rename_i fs ht
      simp only [Bool.and_eq_true, decide_eq_true_eq, List.all_eq_true] at h
      obtain ⟨hpk, hall⟩ := h
      obtain ⟨xs, m, _, _, hlen, hxl, hel⟩ := DataW.trod_struct ht hx
      have key : ∀ (l : List Field) (k p : Nat), (∀ f ∈ l, plainTy P n f.type = true) → packed P p l = some cs.length → (∀ (i : Nat) (f : Field), l[i]? = some f → DataW.trod enc P w base spare held m f.type ((cs.drop f.offset).take (P.cellsOf f.type)) = xs[k + i]?) →
          k + l.length = xs.length → p ≤ cs.length → ∃ ds, shFs (shD P n) l ds ∧ Tells w ds (cs.drop p) := by
        intro l
        induction l with
        | nil =>
          intro k p _ hp _ _ _
          simp only [packed, Option.some.injEq] at hp
          exact ⟨[], rfl, by rw [hp, List.drop_length]; exact ⟨rfl, fun i c d h => by simp at h⟩⟩
        | cons f l ih =>
          intro k p hpl hp hx hk hle
          simp only [packed] at hp
          split at hp
          · rename_i hoff
            have h1 := hx 0 f rfl
            have hk' : k < xs.length := by simp at hk; omega
            rw [Nat.add_zero, List.getElem?_eq_getElem hk'] at h1
            obtain ⟨a, ha1, ha2⟩ := trod_plain n f.type (hpl f List.mem_cons_self) m _ _ h1
            have hge : ∀ (l : List Field) (p q : Nat), packed P p l = some q → p ≤ q := by
              intro l
              induction l with
              | nil => intro p q h; simp only [packed, Option.some.injEq] at h; omega
              | cons g l ih =>
                intro p q h
                simp only [packed] at h
                split at h
                · have := ih _ _ h; omega
                · cases h
            have hle2 := hge _ _ _ hp
            obtain ⟨b, hb1, hb2⟩ := ih (k + 1) (p + P.cellsOf f.type) (fun g hg => hpl g (List.mem_cons_of_mem _ hg)) hp (fun i g hg => by rw [hx (i + 1) g (by simpa using hg)]; congr 1; omega) (by simp at hk; omega) hle2
            refine ⟨a ++ b, ⟨a, b, rfl, ha1, hb1⟩, ?_⟩
            have e : cs.drop p = (cs.drop f.offset).take (P.cellsOf f.type) ++ cs.drop (p + P.cellsOf f.type) := by
              rw [hoff, ← List.drop_drop, List.take_append_drop]
            rw [e]
            exact ha2.append hb2
          · cases hp
      obtain ⟨ds, h1, h2⟩ := key fs.toList 0 0 hall (by rw [hpk, hlen]) (fun i f hf => by rw [Nat.zero_add]; exact hel i f (by simpa using hf)) (by simp [hxl]) (Nat.zero_le _)
      exact ⟨ds, by simp only [shD, ht]; exact h1, by simpa using h2⟩
    · rename_i mm e ht
      simp only [Bool.and_eq_true, decide_eq_true_eq] at h
      obtain ⟨hsz, hpl⟩ := h
      obtain ⟨xs, m, _, _, hlen, hxl, hel⟩ := DataW.trod_array ht hx
      have key : ∀ (q k : Nat), k + q = mm → ∃ ds, shN (shD P n e) q ds ∧ Tells w ds (cs.drop (k * P.cellsOf e)) := by
        intro q
        induction q with
        | zero =>
          intro k hk
          refine ⟨[], rfl, ?_⟩
          rw [List.drop_of_length_le (by rw [hlen, hsz, ← hk]; simp)]
          exact ⟨rfl, fun i c d h => by simp at h⟩
        | succ q ih =>
          intro k hk
          have h1 := hel k (by omega)
          rw [List.getElem?_eq_getElem (by omega)] at h1
          obtain ⟨a, ha1, ha2⟩ := trod_plain n e hpl m _ _ h1
          obtain ⟨b, hb1, hb2⟩ := ih (k + 1) (by omega)
          refine ⟨a ++ b, ⟨a, b, rfl, ha1, hb1⟩, ?_⟩
          have e' : cs.drop (k * P.cellsOf e) = (cs.drop (k * P.cellsOf e)).take (P.cellsOf e) ++ cs.drop ((k + 1) * P.cellsOf e) := by
            rw [Nat.succ_mul, ← List.drop_drop, List.take_append_drop]
          rw [e']
          exact ha2.append hb2
      obtain ⟨ds, h1, h2⟩ := key mm 0 (by omega)
      exact ⟨ds, by simp only [shD, ht]; exact h1, by simpa using h2⟩
    · cases h

def argAV (P : Program) (t : TypeId) (ds : List D) : AV :=
  match P.underlying t with
  | some (.struct _) => .agg (ds.map .ofD)
  | some (.array _ _) => .agg (ds.map .ofD)
  | _ => .ofD (ds.getD 0 default)

def argsOk (P : Program) (n : Nat) : List TypeId → List AV → Prop
  | [], xs => xs = []
  | t :: ts, xs => ∃ ds xs', shD P n t ds ∧ xs = argAV P t ds :: xs' ∧ argsOk P n ts xs'

def oldGhost (w : World) : Ghost := ⟨[], oldImm w⟩

theorem oldMem (w : World) (hgl : GlOk (oldImm w) w) : Mem (oldGhost w) [] w :=
  ⟨rfl, fun o x g h => by simp at h, fun o o' g g' b h => by simp [oldGhost] at h, fun o g b h => by simp [oldGhost] at h, fun b off h => h, hgl⟩

theorem ok_ofD {d : D} {v : Value} {w : World} (h : DConc w (oldImm w) d v) : Conc (oldGhost w) w (.ofD d) v := ofD_conc h

theorem arg_plain {r : Reach} {b0 n : Nat} {t : TypeId} {v : Value} {d : DataW H} {ps : List MemPlace} (hp : plainTy P n t = true) (hval : Value.okWide P w r b0 t v) (hd : DataW.Trod enc P w base spare held t v d ps) :
    ∃ ds, shD P n t ds ∧ Conc (oldGhost w) w (argAV P t ds) v := by
  obtain ⟨fuel, hf⟩ := hd
  obtain ⟨ds, h1, h2, h3⟩ := trod_plain n t hp fuel _ _ hf
  refine ⟨ds, h1, ?_⟩
  have hagg : ∀ cs : Array Value, v = .agg cs → Conc (oldGhost w) w (.agg (ds.map .ofD)) v := by
    rintro cs rfl
    simp only [Value.cells] at h2 h3
    have := Conc.agg (G := oldGhost w) (w := w) (ds.map .ofD) cs.toList (by simpa using h2.symm) ?_ ?_
    · simpa using this
    · intro i u hu
      have hl : i < ds.length := by rw [h2]; exact (List.getElem?_eq_some_iff.1 hu).1
      exact (h3 i u ds[i] hu (List.getElem?_eq_getElem hl)).one
    · intro i c u hc hu
      rw [List.getElem?_map, Option.map_eq_some_iff] at hc
      obtain ⟨d', hd', rfl⟩ := hc
      exact ok_ofD (h3 i u d' hu hd')
  have hone : v.cells.toList = [v] → Conc (oldGhost w) w (.ofD (ds.getD 0 default)) v := by
    intro e
    rw [e] at h2 h3
    match ds, h2, h3 with
    | [d'], _, h3 => exact ok_ofD (h3 0 v d' rfl rfl)
  unfold plainTy at hp
  cases n with
  | zero => cases hp
  | succ n =>
    simp only at hp
    unfold argAV
    split at hp <;> rename_i ht <;> simp only [ht]
    · obtain ⟨b, rfl⟩ := okWide_bool ht hval; exact hone rfl
    · obtain ⟨b, rfl⟩ := okWide_int ht hval; exact hone rfl
    · obtain ⟨b, rfl⟩ := okWide_string ht hval; exact hone rfl
    · obtain ⟨a, l, c, rfl⟩ := okWide_slice ht hval; exact hone rfl
    · unfold Value.okWide at hval
      rw [ht] at hval
      obtain ⟨cs, e, _⟩ := hval
      exact hagg cs e
    · unfold Value.okWide at hval
      rw [ht] at hval
      obtain ⟨cs, e, _⟩ := hval
      exact hagg cs e
    · cases hp

theorem args_plain {b0 n : Nat} {r : Reach} : ∀ {ts : List TypeId} {vs : List Value} {ds : List (DataW H)} {ps : List MemPlace}, (∀ t ∈ ts, plainTy P n t = true) →
    (∀ (j : Nat) t v, ts[j]? = some t → vs[j]? = some v → Value.okWide P w r b0 t v) → DataW.TrodAll enc P w base spare held ts vs ds ps → ∃ xs, argsOk P n ts xs ∧ ConcL (oldGhost w) w xs vs
  | [], vs, ds, ps, _, _, h => by
    cases vs <;> cases ds <;> simp [DataW.TrodAll] at h
    exact ⟨[], rfl, rfl, fun i x v hx => by simp at hx⟩
  | t :: ts, vs, ds, ps, hp, hv, h => by
    obtain ⟨v, vs', d, ds', p, q, rfl, rfl, rfl, h1, h2⟩ := ChangeShapes.trodAll_cons h
    obtain ⟨cs, hc, hx⟩ := arg_plain (hp t List.mem_cons_self) (hv 0 t v rfl rfl) h1
    obtain ⟨xs, hxs, hl⟩ := args_plain (fun t' ht' => hp t' (List.mem_cons_of_mem _ ht')) (fun j t' v' ht' hv' => hv (j + 1) t' v' (by simpa using ht') (by simpa using hv')) h2
    refine ⟨argAV P t cs :: xs, ⟨cs, xs, hc, rfl, hxs⟩, by simp [hl.1], fun i x u hx' hu => ?_⟩
    cases i with
    | zero => cases hx'; cases hu; exact hx
    | succ i => exact hl.2 i x u (by simpa using hx') (by simpa using hu)
end

theorem Step.below {G G' : Ghost} {w w' : World} (h : Step G w G' w') (hb : G.bl = []) : Below w.heap.size w w' :=
  ⟨h.os, h.tape, h.output.1, h.size, fun k hk => h.heap k hk fun o g hg => by simp [hb] at hg⟩

theorem trodAll_below {H : Type} {enc : TypeId × Value → H} {P : Program} (hl : laidOutB P = true) {W W' : World} (hb : Below W.heap.size W W') : ∀ {ts : List TypeId} {vs : List Value} {ds : List (DataW H)} {ps : List MemPlace},
    (∀ t ∈ ts, P.readableRec t = true ∧ t < P.types.size) → DataW.TrodAll enc P W 0 (fun _ => true) true ts vs ds ps → (∀ x ∈ ps, x.block < W.heap.size) →
    DataW.TrodAll enc P W' 0 (fun b => decide (b < W.heap.size)) true ts vs ds ps
  | [], vs, ds, ps, _, h, _ => by cases vs <;> cases ds <;> simp [DataW.TrodAll] at h ⊢; exact h
  | t :: ts, vs, ds, ps, hr, h, hlt => by
    obtain ⟨v, vs', d, ds', p, q, rfl, rfl, rfl, h1, h2⟩ := ChangeShapes.trodAll_cons h
    obtain ⟨r1, r2⟩ := hr t List.mem_cons_self
    exact ⟨p, q, Below.trod hl r1 r2 h1 hb (fun x hx => hlt x (List.mem_append_left _ hx)), trodAll_below hl hb (fun t' ht' => hr t' (List.mem_cons_of_mem _ ht')) h2 (fun x hx => hlt x (List.mem_append_right _ hx)), rfl⟩

theorem law_calls {H : Type} {enc : TypeId × Value → H} {P : Program} {f n : Nat} {fn : Func} {s : ChangeSpec} {bt : TypeId} (hvars : s.vars = []) (hts : fn.resultTypes = #[bt]) (hbt : P.underlying bt = some .bool)
    (hspec : ∀ ds : List (DataW H), ds.length = fn.params.toList.length → (s.fn H (ds ++ [])).results = [.lit (.bool true)] ∧ (s.fn H (ds ++ [])).args = ds ∧ (s.fn H (ds ++ [])).vars = [])
    (hp : fn.params.toList.all (fun t => plainTy P n t && P.readableRec t && decide (t < P.types.size)) = true) (hl : laidOutB P = true)
    (h : ∀ xs, argsOk P n fn.params.toList xs → Fun P f xs (.v (.bool true)) [])
    {W : World} {base : Nat} {args : Array Value} {ds gs : List (DataW H)} {before : List MemPlace} (hgl : GlOk (oldImm W) W)
    (hval : ∀ (j : Nat) t v, fn.params[j]? = some t → args[j]? = some v → Value.okWide P W .any base t v)
    (hW : DataW.Whole enc P fn.params.toList s.vars false W args.toList ds gs before) :
    Calls P f args W fun e W' => ∃ v, e = .returned v ∧ s.post enc P fn false true false false W args v W' := by
  have hlt := hW.lt
  have hW' := hW
  obtain ⟨p, q, hA, hV, rfl, hfz, hnd⟩ := hW
  rw [hvars] at hV
  obtain ⟨rfl, rfl⟩ := trodVars_none hV
  simp only [List.all_eq_true, Bool.and_eq_true, decide_eq_true_eq] at hp
  obtain ⟨xs, hxs, hc⟩ := args_plain (n := n) (fun t ht => (hp t ht).1.1) (fun j t v ht hv => hval j t v (by simpa using ht) (by simpa using hv)) hA
  have hcall := h xs hxs (oldGhost W) W args.toList (oldMem W hgl) hc
  simp only [Array.toArray_toList] at hcall
  refine hcall.mono fun e W' ⟨ae, objs', G', ⟨hae, _⟩, _, hstep, hend⟩ => ?_
  subst hae
  cases e with
  | panicked _ => exact hend.elim
  | outgrown => exact hend.elim
  | returned v =>
    have hv : v = .bool true := conc_v hend
    subst hv
    have hb := hstep.below rfl
    have hlen : ds.length = fn.params.toList.length := by
      have key : ∀ {ts : List TypeId} {vs : List Value} {ds : List (DataW H)} {ps : List MemPlace}, DataW.TrodAll enc P W 0 (fun _ => true) true ts vs ds ps → ds.length = ts.length := by
        intro ts
        induction ts with
        | nil => intro vs ds ps h; cases vs <;> cases ds <;> simp [DataW.TrodAll] at h ⊢
        | cons t ts ih =>
          intro vs ds ps h
          obtain ⟨v, vs', d, ds', p, q, rfl, rfl, rfl, h1, h2⟩ := ChangeShapes.trodAll_cons h
          simp [ih h2]
      exact key hA
    obtain ⟨s1, s2, s3⟩ := hspec ds hlen
    refine ⟨_, rfl, ds, [], p ++ [], [], p, [], hW', ?_, ?_, ?_, ?_, fun h => by cases h⟩
    · rw [s1, hts]
      exact ⟨[], [], ⟨1, by simp [DataW.trod, hbt, Value.cells]⟩, rfl, rfl⟩
    · rw [s2]
      exact trodAll_below hl hb (fun t ht => ⟨(hp t ht).1.2, (hp t ht).2⟩) hA (fun x hx => hlt x (by simpa using hx))
    · rw [s3, hvars]; rfl
    · exact hb.frame _
end Go.Proofs.YtcpjmkbcefmldaaGreatDoor.AM

/- The words by which a function is run: one set of rules; calls. -/
namespace Go.Proofs.YtcpjmkbcefmldaaGreatDoor.AM
open Go

def dstAt : List Oper → Nat → Option Nat
  | [], _ => none
  | o :: _, 0 => o.dst
  | _ :: l, n + 1 => dstAt l n
def gslot (d : Option Nat) (s : AS) (want : Bool) : Option Bool :=
  match d with
  | some d => (match (s.tmps.getD d .any).boolUn with | some (g, b) => some (g && (b == want)) | none => none)
  | none => none
theorem dstAt_eq : ∀ (ops : List Oper) (j : Nat), dstAt ops j = (ops[j]?).bind (·.dst)
  | [], _ => rfl
  | _ :: _, 0 => rfl
  | _ :: l, n + 1 => by simp [dstAt, dstAt_eq l n]
theorem gcond_eq (ops : List Oper) (s : AS) (j : Nat) (want : Bool) : gcond ops s j want = gslot (dstAt ops j) s want := by
  rw [dstAt_eq]
  unfold gcond gslot
  cases ops[j]? with
  | none => rfl
  | some o => simp only [Option.bind_some]; cases o.dst <;> rfl
attribute [go_sem] gcond_eq dstAt
attribute [go_sem] isSlD lookupAV mapUpdateAV w64 aops aopsQ isQ guardAV AV.boolUn totO lenO AV.split intO strO pickAV AV.un beq_true beq_false Bool.cond_false_right Bool.cond_true_left Bool.cond_false_left Bool.cond_true_right cond_true cond_false Bool.and_self Bool.or_self Bool.and_eq_true and_imp Option.some.injEq aop AV.ofValue List.set builtinAV lenAV loadAV storeAV buildAV buildSliceAV sliceAV ioptAV fieldAddrAV fieldAV fieldOf indexAddrAV indexAV partAV extractAV unAV convAV nilCheckAV cellsAV minmaxAV appendAV appRows placeOf fillAV setFrom chunks List.mem_singleton forall_eq List.not_mem_nil AV.toDs AV.toD TI.isAgg binAV sbin sint sstr sbool AV.ofD Tk.sub Tk.isOwn List.getD_cons_succ List.getD_cons_zero List.map List.getElem?_cons_succ List.getElem?_cons_zero List.getElem?_toArray List.take List.drop List.length_cons List.length_nil List.nil_append List.cons_append decide_eq_true_eq decide_eq_false_iff_not ne_eq Bool.not_eq_true Bool.not_eq_false true_and and_true Bool.true_eq_false Bool.false_eq_true not_true_eq_false not_false_eq_true false_implies true_implies forall_const implies_true decide_true decide_false if_true if_false Bool.not_true Bool.not_false Bool.not_not Option.map_some Option.map_none Option.bind_some allTi Option.isSome_some Bool.and_true Bool.true_and Int.toNat_natCast Nat.zero_add Nat.add_zero List.isEmpty_nil List.isEmpty_cons
attribute [go_sem] kQ blockQ loopQ_exit loopQ_ret AV.pubL AV.pub pubTok AV.shift Tk.shift AV.shiftL Obj.shift List.append_nil killL updL reduceCtorEq

section
theorem st_nil : (AV.v (.slice none 0 0)).strip.le (.sl [] .none) := AV.le_nil
end

section
variable {P : Program} {n0 i : Nat} {K : AS → Prop} {Q : AX → AS → Prop} {I : Nat → AS → Prop} {n : Nat} {s : AS}
theorem bQ_e (h : Q .normal s) : blockQ i Q (.exit i) s := by show (if i = i then _ else _); rw [if_pos rfl]; exact h
end
end Go.Proofs.YtcpjmkbcefmldaaGreatDoor.AM

/- What the rules look at: never at what comes behind. -/
namespace Go.Proofs.YtcpjmkbcefmldaaGreatDoor.AM
open Go

end Go.Proofs.YtcpjmkbcefmldaaGreatDoor.AM

/- Slots, told by what was laid last: a lookup goes back as far as it must. -/
namespace Go.Proofs.YtcpjmkbcefmldaaGreatDoor.AM
open Go

def oc (d : Nat) (x : AV) (r : List (Nat × AV)) : List (Nat × AV) := (d, x) :: r
def onil : List (Nat × AV) := []
def og : List (Nat × AV) → Nat → AV
  | [], _ => .any
  | (d, x) :: r, t => if d = t then x else og r t
def ov (n : Nat) : List (Nat × AV) → List AV
  | [] => List.replicate n .any
  | (d, x) :: r => (ov n r).set d x

theorem ov_length (n : Nat) : ∀ o, (ov n o).length = n
  | [] => by simp [ov]
  | (d, x) :: r => by simp [ov, ov_length n r]
theorem ov_get (n : Nat) : ∀ (o : List (Nat × AV)) (t : Nat), t < n → (ov n o)[t]? = some (og o t)
  | [], t, h => by simp [ov, og, h]
  | (d, x) :: r, t, h => by
    simp only [ov, og, List.getElem?_set]
    by_cases e : d = t
    · subst e; simp [ov_length, h]
    · simp [e, ov_get n r t h]
theorem ov_getD (n : Nat) (o : List (Nat × AV)) (t : Nat) : (ov n o).getD t .any = if t < n then og o t else .any := by
  rw [List.getD_eq_getElem?_getD]
  split
  · rename_i h; rw [ov_get n o t h]; rfl
  · rename_i h; rw [List.getElem?_eq_none (by rw [ov_length]; omega)]; rfl
theorem og_oc (d : Nat) (x : AV) (r : List (Nat × AV)) (t : Nat) : og (oc d x r) t = if d = t then x else og r t := rfl
theorem og_onil (t : Nat) : og onil t = .any := rfl
@[congr] theorem oc_cg {d : Nat} {x x' : AV} {r : List (Nat × AV)} (h : x = x') : oc d x r = oc d x' r := by rw [h]
theorem eval_ov (n : Nat) (o : List (Nat × AV)) (objs : List Obj) (t : Nat) : AS.eval ⟨ov n o, objs⟩ (.tmp t) = (if t < n then og o t else .any).un := by
  simp only [AS.eval, ov_getD]
theorem raw_ov (n : Nat) (o : List (Nat × AV)) (objs : List Obj) (t : Nat) : AS.raw ⟨ov n o, objs⟩ (.tmp t) = if t < n then og o t else .any := by
  simp only [AS.raw, ov_getD]
theorem eval_const (s : AS) (v : Value) : AS.eval s (.const v) = AV.ofValue v := rfl
theorem eval_func (s : AS) (f : Nat) : AS.eval s (.func f) = .fn f [] [] := rfl
theorem raw_const (s : AS) (v : Value) : AS.raw s (.const v) = AV.ofValue v := rfl
theorem raw_func (s : AS) (f : Nat) : AS.raw s (.func f) = .fn f [] [] := rfl
theorem put_ov (n : Nat) (o : List (Nat × AV)) (objs : List Obj) (d : Nat) (x : AV) : AS.put ⟨ov n o, objs⟩ (some d) x = ⟨ov n (oc d x o), objs⟩ := rfl
theorem put_none (s : AS) (x : AV) : AS.put s none x = s := rfl
theorem gslot_ov (n : Nat) (o : List (Nat × AV)) (objs : List Obj) (d : Nat) (want : Bool) : gslot (some d) ⟨ov n o, objs⟩ want = (match (if d < n then og o d else .any).boolUn with | some (g, b) => some (g && (b == want)) | none => none) := by
  rw [← ov_getD]; rfl
def argsO : Nat → List AV → List (Nat × AV)
  | _, [] => onil
  | i, a :: as => oc i a (argsO (i + 1) as)
theorem og_args : ∀ (as : List AV) (i t : Nat), og (argsO i as) (i + t) = as.getD t .any
  | [], i, t => by simp [argsO, og_onil]
  | a :: as, i, 0 => by simp [argsO, og_oc]
  | a :: as, i, t + 1 => by
    have := og_args as (i + 1) t
    rw [show i + 1 + t = i + (t + 1) from by omega] at this
    simp only [argsO, og_oc]
    rw [if_neg (by omega), this]; simp
theorem args_ov (args : List AV) (n : Nat) (h : args.length ≤ n) : args ++ List.replicate (n - args.length) .any = ov n (argsO 0 args) := by
  apply List.ext_getElem?
  intro t
  rcases Nat.lt_or_ge t n with ht | ht
  · rw [ov_get n _ t ht]
    have := og_args args 0 t
    rw [Nat.zero_add] at this
    rw [this]
    rcases Nat.lt_or_ge t args.length with h1 | h1
    · rw [List.getElem?_append_left h1, List.getD_eq_getElem?_getD, List.getElem?_eq_getElem h1]; rfl
    · rw [List.getElem?_append_right h1, List.getElem?_replicate, if_pos (by omega), List.getD_eq_getElem?_getD, List.getElem?_eq_none h1]; rfl
  · rw [List.getElem?_eq_none (by simp; omega), List.getElem?_eq_none (by rw [ov_length]; omega)]

theorem Fun.of_awpO {P : Program} {f : Nat} {fn : Func} {c : Code} {args : List AV} {x : AV} {o0 : List Obj} (hf : P.funcs[f]? = some fn) (hb : fn.body = some c) (hl : args.length ≤ fn.ntmps)
    (h : awp P 0 c ⟨ov fn.ntmps (argsO 0 args), []⟩ (bodyQ P 0 fn.results.toList (fun ae o => ae = .ret x ∧ o = o0)) (fun _ _ => False)) : Fun P f args x o0 :=
  Fun.of_awp hf hb (by rw [args_ov args fn.ntmps hl]; exact h)

/-! ### What may be forgotten -/

def leO (o : List (Nat × AV)) : List (Nat × AV) → Prop
  | [] => True
  | (d, x) :: r => (og o d).le x ∧ leO o r
theorem leO_get {o : List (Nat × AV)} : ∀ {r : List (Nat × AV)}, leO o r → ∀ t, (og o t).le (og r t)
  | [], _, t => AV.le_any _
  | (d, x) :: r, h, t => by
    simp only [og]
    split
    · rename_i e; subst e; exact h.1
    · exact leO_get h.2 t
theorem leL_of_get : ∀ {xs ys : List AV}, xs.length = ys.length → (∀ (i : Nat) (x y : AV), xs[i]? = some x → ys[i]? = some y → x.le y) → AV.leL xs ys
  | [], [], _, _ => trivial
  | x :: xs, y :: ys, hl, h => ⟨h 0 x y rfl rfl, leL_of_get (by simpa using hl) fun i x y hx hy => h (i + 1) x y (by simpa using hx) (by simpa using hy)⟩
  | [], _ :: _, hl, _ => by simp at hl
  | _ :: _, [], hl, _ => by simp at hl
theorem leO_leL {n : Nat} {o r : List (Nat × AV)} (h : leO o r) : AV.leL (ov n o) (ov n r) := by
  refine leL_of_get (by rw [ov_length, ov_length]) fun i x y hx hy => ?_
  have hi : i < n := by have := (List.getElem?_eq_some_iff.1 hx).1; rwa [ov_length] at this
  rw [ov_get n _ i hi] at hx hy
  cases hx; cases hy
  exact leO_get h i

def idsO (k : Nat) : List (Nat × AV) → Bool
  | [] => true
  | (_, x) :: r => x.idsLt k && idsO k r
theorem idsLtL_of {k : Nat} : ∀ {xs : List AV}, (∀ (i : Nat) (x : AV), xs[i]? = some x → x.idsLt k = true) → AV.idsLtL k xs = true
  | [], _ => rfl
  | x :: xs, h => by simp only [AV.idsLtL, Bool.and_eq_true]; exact ⟨h 0 x rfl, idsLtL_of fun i x hx => h (i + 1) x (by simpa using hx)⟩
theorem idsO_get {k : Nat} : ∀ {o : List (Nat × AV)}, idsO k o = true → ∀ t, (og o t).idsLt k = true
  | [], _, t => rfl
  | (d, x) :: r, h, t => by
    simp only [idsO, Bool.and_eq_true] at h
    simp only [og]
    split
    · exact h.1
    · exact idsO_get h.2 t
theorem idsO_L {n k : Nat} {o : List (Nat × AV)} (h : idsO k o = true) : AV.idsLtL k (ov n o) = true := by
  refine idsLtL_of fun i x hx => ?_
  have hi : i < n := by have := (List.getElem?_eq_some_iff.1 hx).1; rwa [ov_length] at this
  rw [ov_get n _ i hi] at hx
  cases hx
  exact idsO_get h i

def ofil (kp : Nat → Bool) : List (Nat × AV) → List (Nat × AV)
  | [] => onil
  | (d, x) :: r => bif kp d then ofil kp r else oc d x (ofil kp r)
theorem og_ofil (kp : Nat → Bool) : ∀ (o : List (Nat × AV)) (t : Nat), og (ofil kp o) t = if kp t = true then .any else og o t
  | [], t => by simp [ofil, onil, og]
  | (d, x) :: r, t => by
    have ih := og_ofil kp r t
    simp only [ofil]
    cases hk : kp d
    · simp only [cond_false, og_oc, og, ih]
      by_cases hd : d = t
      · subst hd; simp [hk]
      · simp [hd]
    · simp only [cond_true, og, ih]
      by_cases hd : d = t
      · subst hd; simp [hk]
      · simp [hd]
theorem idsO_one {n k i : Nat} {o : List (Nat × AV)} (h : idsO k (ofil (fun d => decide (d = i)) o) = true) : AV.idsLtL k (AM.ov n (oc i .any o)) = true := by
  refine idsLtL_of fun j x hx => ?_
  have hj : j < n := by have := (List.getElem?_eq_some_iff.1 hx).1; rwa [ov_length] at this
  rw [ov_get n _ j hj] at hx
  cases hx
  rw [og_oc]
  split
  · rfl
  · rename_i hne
    have := idsO_get h j
    rw [og_ofil, if_neg (by simpa using fun e => hne e.symm)] at this
    exact this

theorem Weak.tokO {n0 n : Nat} {o : List (Nat × AV)} {objs : List Obj} (i sz e : Nat) (ex : Bool) (hi : i < n) (h : og o i = .v (.slice none 0 0)) :
    Weak n0 ⟨AM.ov n o, objs⟩ ⟨AM.ov n (oc i (.sl [] (.own objs.length)) o), objs ++ [.tok 0 sz e ex]⟩ :=
  Weak.tok (s := ⟨AM.ov n o, objs⟩) i sz e ex (by rw [ov_get n o i hi, h])

def ol : List (Nat × AV) → List (Nat × AV) → List (Nat × AV)
  | [], r => r
  | (d, x) :: l, r => oc d x (ol l r)
@[congr] theorem awp_cg {P : Program} {n0 : Nat} {c : Code} {s s' : AS} {Q : AX → AS → Prop} {E : AV → List Obj → Prop} (h : s = s') : awp P n0 c s Q E = awp P n0 c s' Q E := by rw [h]

theorem keepL_ov (n : Nat) (L : List Nat) (o : List (Nat × AV)) : keepL (ov n o) 0 L = ov n (o.filter fun e => L.contains e.1) := by
  apply List.ext_getElem?
  intro t
  rw [keepL_get]
  rcases Nat.lt_or_ge t n with h | h
  · rw [ov_get n _ t h, ov_get n _ t h]
    simp only [Option.map_some, Nat.zero_add, Option.some.injEq]
    induction o with
    | nil => simp [og]
    | cons e r ih =>
      obtain ⟨d, x⟩ := e
      simp only [og, List.filter_cons]
      by_cases hd : d = t
      · subst hd
        cases hc : L.contains d
        · simp only [if_true, cond_false, Bool.false_eq_true, if_false]
          have ih' := ih
          rw [hc] at ih'
          simpa using ih'
        · simp [og]
      · rw [if_neg hd]
        cases hc : L.contains d
        · simpa using ih
        · simp only [if_true, og, if_neg hd]; exact ih
  · rw [List.getElem?_eq_none (by rw [ov_length]; omega), List.getElem?_eq_none (by rw [ov_length]; omega)]; rfl
def okeep (L : List Nat) : List (Nat × AV) → List (Nat × AV)
  | [] => onil
  | (d, x) :: r => bif L.contains d then oc d x (okeep L r) else okeep L r
theorem okeep_eq (L : List Nat) : ∀ o : List (Nat × AV), okeep L o = o.filter fun e => L.contains e.1
  | [] => rfl
  | (d, x) :: r => by
    simp only [okeep, List.filter_cons, okeep_eq L r]
    cases L.contains d <;> rfl
theorem keep_ov (n : Nat) (o : List (Nat × AV)) (objs : List Obj) (L : List Nat) : AS.keep ⟨ov n o, objs⟩ L = ⟨ov n (okeep L o), objs⟩ := by
  simp only [AS.keep, keepL_ov, okeep_eq]
attribute [go_sem] og_oc og_onil ov_getD eval_ov raw_ov eval_const eval_func raw_const raw_func put_ov put_none gslot_ov ol

section
variable {P : Program} {ops : List Oper} {o : Oper} {rest : List Oper} {s : AS} {K : AS → Prop}
end
end Go.Proofs.YtcpjmkbcefmldaaGreatDoor.AM

/- A library's sort, as a contract: what it asks of the order, what it leaves in the row. -/
namespace Go.Proofs.YtcpjmkbcefmldaaGreatDoor.AM
open Go

structure Turned (w w' : World) (blk : Nat) : Prop where
  heap : ∀ j, j ≠ blk → j < w.heap.size → w'.heap[j]? = w.heap[j]?
  size : w.heap.size ≤ w'.heap.size
  os : w'.os = w.os
  tape : w'.tape = w.tape
  output : w'.output = w.output ∧ w.drawn ≤ w'.drawn

def packV (one : Bool) (l : List Value) : Value := bif one then l.headD undef else .agg l.toArray
def packA (one : Bool) (l : List D) : AV := bif one then AV.ofD (l.headD default) else .agg (l.map .ofD)

def SortCon (P : Program) (f g k : Nat) (one : Bool) : Prop :=
  ∀ (α : Type) [Inhabited α] (enc : α → List Value) (cf : α → α → Int) (blk cap : Nat) (d : Array α) (w : World),
    (∀ x, (enc x).length = k) → (∀ x, ∀ v ∈ enc x, v.oneCell' = true) →
    (∀ x, ¬ cf x x < 0) → (∀ x y z, cf x y < 0 → cf y z < 0 → cf x z < 0) → (∀ x y z, ¬ cf x y < 0 → ¬ cf y z < 0 → ¬ cf x z < 0) →
    (∀ W, Turned w W blk → ∀ x y, Calls P g #[packV one (enc x), packV one (enc y)] W fun e w' =>
      e = .returned (.int .i64 (cf x y)) ∧ ∃ (q : Nat) (os' : Array Go.Obj), w' = { W with heap := W.heap ++ os', drawn := W.drawn + q }) →
    (∀ j, j < d.size * k → w.cell? ⟨blk, j, none⟩ = some ((enc d[j / k]!)[j % k]!) ∧ w.frozen? ⟨blk, j, none⟩ = false) →
    blk < w.heap.size → d.size < 4611686018427387904 →
    Calls P f #[.slice (some ⟨blk, 0, none⟩) d.size cap, .func (.func g) #[] #[]] w fun e w' =>
      e = .returned (.tuple #[]) ∧ Turned w w' blk ∧ ∃ d' : Array α, d'.toList.Perm d.toList ∧ d'.toList.Pairwise (fun x y => ¬ cf y x < 0) ∧
        ∀ c e t, w.heap[blk]? = some (.cells c e t) → ∃ c', w'.heap[blk]? = some (.cells c' e t) ∧ c'.size = c.size ∧ ∀ j, j < d.size * k → c'[j]? = some ((enc d'[j / k]!)[j % k]!)

def SortCon0 (P : Program) (f g : Nat) : Prop :=
  ∀ (a : Option Addr) (cap : Nat) (w : World), Calls P f #[.slice a 0 cap, .func (.func g) #[] #[]] w fun e w' => e = .returned (.tuple #[]) ∧ w' = w

theorem box_turned {G : Ghost} {objs : List Obj} {w w' : World} (hm : Mem G objs w) {o b : Nat} {cells xs : List AV} (ho : objs[o]? = some (.box cells))
    (hb : G.bl[o]? = some (.obj b)) (ht : Turned w w' b) {c' : Array Value} {e : TypeId} (hh : w'.heap[b]? = some (.cells c' e (0, 0))) (him : ∀ off, ¬ G.imm b off)
    (hsz : xs.length ≤ c'.size) (hx : ∀ (j : Nat) (x : AV) (v : Value), xs[j]? = some x → c'[j]? = some v → v.oneCell' = true ∧ Conc G w x v) :
    Step G w G w' ∧ Mem G (objs.set o (.box xs)) w' := by
  have hext : Ext G w G w' := by
    refine ⟨fun t b' o' hi => ?_, fun _ _ _ h => h, fun _ _ h => h, fun _ _ h => .inl h, fun _ b l c sz ex h => ⟨b, l, c, sz, ex, h, .inr ⟨rfl, rfl, rfl⟩⟩⟩
    have hlt := hm.imLt t b' o' hi
    refine cell_of_heap (ht.heap b' ?_ hlt) o'
    rintro rfl
    rcases im_cases hi with hi | ⟨o2, len, cap, sz, _, h1, _⟩
    · exact him o' hi
    · have := hm.inj o o2 _ _ _ hb h1 rfl rfl
      subst this
      rw [hb] at h1; cases h1
  refine ⟨⟨hext, ?_, ht.size, ht.os, ht.tape, ht.output, fun _ _ h => .inl h, fun o g b hg hb => .inr ⟨o, g, hg, hb⟩⟩, ?_⟩
  · intro k hk hn
    refine ht.heap k ?_ hk
    rintro rfl
    exact hn o _ hb rfl
  · have hlo : o < objs.length := by
      rcases Nat.lt_or_ge o objs.length with hl | hl
      · exact hl
      · rw [List.getElem?_eq_none hl] at ho; cases ho
    refine ⟨by simp [hm.len], ?_, hm.inj, fun o g b' h1 h2 => Nat.lt_of_lt_of_le (hm.lt o g b' h1 h2) ht.size, fun b' off' h => Nat.lt_of_lt_of_le (hm.immLt.1 b' off' h) ht.size, hm.gl hext⟩
    intro o' y g' ho' hg'
    by_cases heo : o = o'
    · subst heo
      rw [List.getElem?_set, if_pos rfl, if_pos hlo] at ho'
      cases ho'
      rw [hb] at hg'; cases hg'
      exact .inr ⟨b, c', e, rfl, hh, hsz, fun j x v hj hv => ⟨(hx j x v hj hv).1, (hx j x v hj hv).2.mono hext⟩, him⟩
    · rw [List.getElem?_set, if_neg heo] at ho'
      refine (hm.ok o' y g' ho' hg').mono hext ?_ (fun _ _ _ h => h)
      intro b' hb'
      refine ht.heap b' ?_ (hm.lt o' g' b' hg' hb')
      rintro rfl
      exact heo (hm.inj o o' _ _ _ hb hg' rfl hb')

theorem calls_plain {P : Program} {g : Nat} {args : List AV} {x : AV} {o0 : List Obj} (h : Fun P g args x o0) {imm : Nat → Nat → Prop} {W : World} (himm : (∀ b off, imm b off → b < W.heap.size) ∧ GlOk imm W) {vs : List Value}
    (hc : ConcL ⟨[], imm⟩ W args vs) : Calls P g vs.toArray W fun e w' => (∃ G' v, e = .returned v ∧ Conc G' w' x v) ∧ ∃ (q : Nat) (os' : Array Go.Obj), w' = { W with heap := W.heap ++ os', drawn := W.drawn + q } := by
  have hm : Mem ⟨[], imm⟩ [] W := ⟨rfl, fun o x g h => by simp at h, fun o o' g g' b h => by simp at h, fun o g b h => by simp at h, himm⟩
  refine (h ⟨[], imm⟩ W vs hm hc).mono ?_
  rintro e w' ⟨ae, objs', G', ⟨rfl, rfl⟩, _, hst, hend⟩
  refine ⟨?_, w'.drawn - W.drawn, w'.heap.extract W.heap.size w'.heap.size, ?_⟩
  · cases e with
    | returned v => exact ⟨G', v, rfl, hend⟩
    | panicked c => exact hend.elim
    | outgrown => exact hend.elim
  · have hheap : w'.heap = W.heap ++ w'.heap.extract W.heap.size w'.heap.size := by
      apply Array.ext_getElem?
      intro j
      rcases Nat.lt_or_ge j W.heap.size with hj | hj
      · rw [Array.getElem?_append_left hj]
        exact hst.heap j hj (fun o g hg => by simp at hg)
      · rw [Array.getElem?_append_right hj]
        rw [Array.getElem?_extract]
        have hs := hst.size
        split
        · congr 1; omega
        · rw [Array.getElem?_eq_none]; omega
    have hdr : w'.drawn = W.drawn + (w'.drawn - W.drawn) := by have := hst.output.2; omega
    obtain ⟨h1, h2, h3, h4, h5⟩ : w'.heap = W.heap ++ w'.heap.extract W.heap.size w'.heap.size ∧ w'.drawn = W.drawn + (w'.drawn - W.drawn) ∧ w'.os = W.os ∧ w'.tape = W.tape ∧ w'.output = W.output := ⟨hheap, hdr, hst.os, hst.tape, hst.output.1⟩
    generalize w'.heap.extract W.heap.size w'.heap.size = os' at *
    generalize w'.drawn - W.drawn = q at *
    cases w'
    cases W
    simp only at h1 h2 h3 h4 h5
    simp [h1, h2, h3, h4, h5]

theorem sort_acall {P : Program} {f g k : Nat} {one : Bool} (hone1 : one = true → k = 1) (hs : SortCon P f g k one) (hs0 : SortCon0 P f g) (hk : 0 < k) {objs : List Obj} {o : Nat} {rows : List (List D)} (ho : objs[o]? = some (.box (rowCells rows))) (hl : ∀ r ∈ rows, r.length = k)
    (cf : List D → List D → Int) (h1 : ∀ x ∈ rows, ¬ cf x x < 0) (h2 : ∀ x ∈ rows, ∀ y ∈ rows, ∀ z ∈ rows, cf x y < 0 → cf y z < 0 → cf x z < 0) (h3 : ∀ x ∈ rows, ∀ y ∈ rows, ∀ z ∈ rows, ¬ cf x y < 0 → ¬ cf y z < 0 → ¬ cf x z < 0)
    (hc : ∀ x ∈ rows, ∀ y ∈ rows, ∃ o0, Fun P g [packA one x, packA one y] (.v (.int .i64 (cf x y))) o0) (hbig : rows.length < 4611686018427387904) :
    ACall P f [.bsl o 0 rows.length, .fn g [] []] objs (fun ae objs' => ae = .ret (.tup []) ∧ ∃ rows' : List (List D), rows'.Perm rows ∧ rows'.Pairwise (fun x y => ¬ cf y x < 0) ∧ objs' = objs.set o (.box (rowCells rows'))) := by
  intro G w vs hm hcv
  obtain ⟨hlen, hcv⟩ := hcv
  match vs, hlen, hcv with
  | [v1, v2], _, hcv =>
    have c1 := hcv 0 _ v1 rfl rfl
    have c2 := hcv 1 _ v2 rfl rfl
    obtain ⟨vf, vc, rfl, ⟨e1, _⟩, ⟨e2, _⟩⟩ := conc_fn c2
    have hvf : vf = [] := List.eq_nil_of_length_eq_zero e1
    have hvc : vc = [] := List.eq_nil_of_length_eq_zero e2
    subst hvf; subst hvc
    have hself : objs.set o (.box (rowCells rows)) = objs := list_set_self ho
    have empty : rows = [] → ∀ a cap, v1 = .slice a 0 cap → Calls P f #[v1, .func (.func g) #[] #[]] w fun e w' => ∃ ae objs' G', (ae = AEnd.ret (.tup []) ∧ ∃ rows' : List (List D), rows'.Perm rows ∧ rows'.Pairwise (fun x y => ¬ cf y x < 0) ∧ objs' = objs.set o (.box (rowCells rows'))) ∧ Mem G' objs' w' ∧ Step G w G' w' ∧ EndOk G' w' ae e := by
      rintro hr a cap rfl
      refine (hs0 a cap w).mono ?_
      rintro e w' ⟨rfl, rfl⟩
      exact ⟨_, objs, G, ⟨rfl, rows, .refl _, by rw [hr]; exact .nil, hself.symm⟩, hm, Step.refl G w', .tup [] [] rfl (fun i c v h => by simp at h)⟩
    generalize hn : rows.length = n at c1
    rcases Nat.eq_zero_or_pos n with hz | hpos
    · have hr : rows = [] := List.eq_nil_of_length_eq_zero (by omega)
      subst hz
      cases c1 with
      | bsl _ _ _ cap b h h1 h2 => exact empty hr _ _ rfl
      | bsl0 _ _ cap a h2 => exact empty hr _ _ rfl
    · cases c1 with
      | bsl0 _ _ cap a h2 => omega
      | bsl _ _ _ cap b hb hcap hmx =>
        obtain ⟨gg, hg, hok⟩ := hm.obj ho
        rw [hb] at hg; cases hg
        rcases hok with ⟨_, l, hl⟩ | ⟨b', c, e, hbe, hh, hsz, hcc, him⟩
        · cases hl
        cases hbe
        have hlr : ∀ (i : Nat) (r : List D), rows[i]? = some r → r.length = k := fun i r h => hl r (List.mem_of_getElem? h)
        have hrl := rowCells_len hlr
        rw [hrl, hn] at hsz
        let row : Fin n → List D := fun i => rows[i.1]'(by omega)
        have hrow : ∀ i : Fin n, rows[i.1]? = some (row i) := fun i => List.getElem?_eq_getElem (by have := i.2; omega)
        have hmem : ∀ i : Fin n, row i ∈ rows := fun i => List.getElem_mem _
        let enc : Fin n → List Value := fun i => (c.toList.drop (i.1 * k)).take k
        have hik : ∀ i : Fin n, i.1 * k + k ≤ n * k := fun i => by rw [← Nat.succ_mul]; exact Nat.mul_le_mul_right k i.2
        have henc : ∀ i, (enc i).length = k := fun i => by
          have := hik i
          simp only [enc, List.length_take, List.length_drop, Array.length_toList]; omega
        have hget : ∀ (i : Fin n) (j : Nat), j < k → (enc i)[j]? = c[i.1 * k + j]? := fun i j hj => by
          simp only [enc, List.getElem?_take, if_pos hj, List.getElem?_drop, Array.getElem?_toList]
        have hcell : ∀ (i : Fin n) (j : Nat) (d : D), (row i)[j]? = some d → ∃ v, (enc i)[j]? = some v ∧ v.oneCell' = true ∧ DConc w G.imm d v := by
          intro i j d hd
          have hj : j < k := by
            rw [← hl _ (hmem i)]
            rcases Nat.lt_or_ge j (row i).length with h | h
            · exact h
            · rw [List.getElem?_eq_none h] at hd; cases hd
          have hlt : i.1 * k + j < c.size := by have := hik i; omega
          have hf := flat_of_row hlr (hrow i) hd
          have hrc : (rowCells rows)[i.1 * k + j]? = some (.ofD d) := by rw [rowCells, List.getElem?_map, hf]; rfl
          obtain ⟨k1, k2⟩ := hcc _ _ _ hrc (Array.getElem?_eq_getElem hlt)
          exact ⟨c[i.1 * k + j], by rw [hget i j hj, Array.getElem?_eq_getElem hlt], k1, conc_ofD k2⟩
        have hone : ∀ x, ∀ v ∈ enc x, v.oneCell' = true := by
          intro i v hv
          obtain ⟨j, hj, hjv⟩ := List.mem_iff_getElem.1 hv
          rw [henc] at hj
          have hd := List.getElem?_eq_getElem (l := row i) (i := j) (by rw [hl _ (hmem i)]; exact hj)
          obtain ⟨v', h1', h2', _⟩ := hcell i j _ hd
          rw [List.getElem?_eq_getElem (by rw [henc]; exact hj)] at h1'
          cases h1'
          rw [← hjv]; exact h2'
        have : Inhabited (Fin n) := ⟨⟨0, hpos⟩⟩
        let d : Array (Fin n) := Array.ofFn id
        have hds : d.size = n := by simp [d]
        have hblk : b < w.heap.size := hm.lt o _ b hb rfl
        have hcon := hs (Fin n) enc (fun i j => cf (row i) (row j)) b cap d w henc hone (fun i => h1 _ (hmem i)) (fun i j l => h2 _ (hmem i) _ (hmem j) _ (hmem l)) (fun i j l => h3 _ (hmem i) _ (hmem j) _ (hmem l))
          (by
            intro W hW i j
            obtain ⟨o0, hfun⟩ := hc _ (hmem i) _ (hmem j)
            have himm : ∀ b off, G.imm b off → b < W.heap.size := fun b off h => Nat.lt_of_lt_of_le (hm.immLt.1 b off h) hW.size
            have hcells : ∀ (b' : Nat) (off : Nat), G.imm b' off → W.cell? ⟨b', off, none⟩ = w.cell? ⟨b', off, none⟩ := by
              intro b' off h
              refine cell_of_heap (hW.heap b' ?_ (hm.immLt.1 b' off h)) off
              rintro rfl
              exact him off h
            have hpk : ∀ i : Fin n, Conc ⟨[], G.imm⟩ W (.agg ((row i).map .ofD)) (.agg (enc i).toArray) → Conc ⟨[], G.imm⟩ W (packA one (row i)) (packV one (enc i)) := by
              intro i h
              cases hone : one with
              | false => exact h
              | true =>
                have hk1 := hone1 hone
                have hd0 := List.getElem?_eq_getElem (l := row i) (i := 0) (by rw [hl _ (hmem i)]; omega)
                obtain ⟨v', q1, _, q3⟩ := hcell i 0 _ hd0
                have e1 : (row i).headD default = (row i)[0]'(by rw [hl _ (hmem i)]; omega) := by rw [List.headD_eq_head?_getD, List.head?_eq_getElem?, hd0]; rfl
                have e2 : (enc i).headD undef = v' := by rw [List.headD_eq_head?_getD, List.head?_eq_getElem?, q1]; rfl
                show Conc _ _ (AV.ofD ((row i).headD default)) ((enc i).headD undef)
                rw [e1, e2]
                exact ofD_conc (G := ⟨[], G.imm⟩) (q3.mono hcells (fun _ _ h => h))
            have hagg : ∀ i : Fin n, Conc ⟨[], G.imm⟩ W (packA one (row i)) (packV one (enc i)) := by
              intro i
              refine hpk i ?_
              refine .agg _ _ (by rw [henc, List.length_map, hl _ (hmem i)]) (fun j v hv => hone i v (List.mem_of_getElem? hv)) ?_
              intro j x v hx hv
              simp only [List.getElem?_map] at hx
              cases hd : (row i)[j]? with
              | none => simp [hd] at hx
              | some dd =>
                simp only [hd, Option.map_some, Option.some.injEq] at hx
                subst hx
                obtain ⟨v', q1, _, q3⟩ := hcell i j dd hd
                rw [hv] at q1; cases q1
                exact ofD_conc (G := ⟨[], G.imm⟩) (q3.mono hcells (fun _ _ h => h))
            refine (calls_plain hfun ⟨himm, hm.immLt.2.mono hcells (fun _ _ h => h)⟩ (vs := [packV one (enc i), packV one (enc j)]) ⟨rfl, ?_⟩).mono ?_
            · intro p x v hx hv
              match p with
              | 0 => simp at hx hv; subst hx; subst hv; exact hagg i
              | 1 => simp at hx hv; subst hx; subst hv; exact hagg j
              | p + 2 => simp at hx
            · rintro e' w' ⟨⟨G', v, rfl, hv⟩, hg'⟩
              have := conc_v hv
              subst this
              exact ⟨rfl, hg'⟩)
          (by
            intro j hj
            rw [hds] at hj
            have hdiv : j / k < n := Nat.div_lt_of_lt_mul (by rw [Nat.mul_comm]; exact hj)
            have hmod : j % k < k := Nat.mod_lt _ hk
            have hdd : d[j / k]! = ⟨j / k, hdiv⟩ := by
              rw [getElem!_pos d (j / k) (by rw [hds]; exact hdiv)]
              simp [d]
            have hjk : j / k * k + j % k = j := by rw [Nat.mul_comm]; exact Nat.div_add_mod j k
            rw [hdd]
            have hjc : j < c.size := by omega
            have he := hget ⟨j / k, hdiv⟩ (j % k) hmod
            simp only [hjk] at he
            rw [Array.getElem?_eq_getElem hjc] at he
            constructor
            · rw [cell_cells hh, Array.getElem?_eq_getElem hjc, List.getElem!_eq_getElem?_getD, he]; rfl
            · simp [World.frozen?, hh])
          hblk (by rw [hds, ← hn]; exact hbig)
        rw [hds] at hcon
        refine hcon.mono ?_
        rintro e' w' ⟨rfl, hT, d', hp, hpw, hcl⟩
        obtain ⟨c', hh', hsz', hcv'⟩ := hcl c e (0, 0) hh
        have hd's : d'.toList.length = n := by rw [hp.length_eq]; simp [d]
        have hdl : d.toList.map row = rows := by
          apply List.ext_getElem?
          intro i
          simp only [d, Array.toList_ofFn, List.getElem?_map, List.getElem?_ofFn]
          by_cases hi : i < n
          · simp only [hi, dif_pos, Option.map_some, id]
            exact (hrow ⟨i, hi⟩).symm
          · simp only [hi, dif_neg, not_false_eq_true, Option.map_none]
            rw [List.getElem?_eq_none (by omega)]
        have hrl' : ∀ (i : Nat) (r : List D), (d'.toList.map row)[i]? = some r → r.length = k := by
          intro i r hr
          obtain ⟨x, _, rfl⟩ := List.mem_map.1 (List.mem_of_getElem? hr)
          exact hl _ (hmem x)
        obtain ⟨s1, s2⟩ := box_turned hm ho hb hT hh' him (xs := rowCells (d'.toList.map row)) (by rw [rowCells_len hrl', List.length_map, hd's, hsz']; exact hsz) (by
          intro j x v hj hv
          simp only [rowCells, List.getElem?_map] at hj
          cases hfd : (d'.toList.map row).flatten[j]? with
          | none => simp [hfd] at hj
          | some dd =>
            simp only [hfd, Option.map_some, Option.some.injEq] at hj
            subst hj
            obtain ⟨p, q, r, q1, q2, rfl⟩ := flat_get hrl' hfd
            have hr := hrl' p r q1
            have hq : q < k := by
              rw [← hr]
              rcases Nat.lt_or_ge q r.length with h | h
              · exact h
              · rw [List.getElem?_eq_none h] at q2; cases q2
            simp only [List.getElem?_map] at q1
            cases hpx : d'.toList[p]? with
            | none => simp [hpx] at q1
            | some xi =>
              simp only [hpx, Option.map_some, Option.some.injEq] at q1
              subst q1
              have hpn : p < n := by
                rw [← hd's]
                rcases Nat.lt_or_ge p d'.toList.length with h | h
                · exact h
                · rw [List.getElem?_eq_none h] at hpx; cases hpx
              have hlt : p * k + q < n * k := by
                have : p * k + k ≤ n * k := by rw [← Nat.succ_mul]; exact Nat.mul_le_mul_right k hpn
                omega
              have hv' := hcv' _ hlt
              have e1 : (p * k + q) / k = p := by rw [Nat.mul_comm, Nat.mul_add_div hk, Nat.div_eq_of_lt hq]; rfl
              have e2 : (p * k + q) % k = q := by rw [Nat.mul_comm, Nat.mul_add_mod, Nat.mod_eq_of_lt hq]
              have hpd : d'[p]! = xi := by
                have hps : p < d'.size := by rw [← Array.length_toList, hd's]; exact hpn
                rw [getElem!_pos d' p hps]
                have := hpx
                rw [Array.getElem?_toList, Array.getElem?_eq_getElem hps] at this
                simpa using this
              rw [e1, e2, hpd] at hv'
              rw [hv] at hv'
              obtain ⟨v', r1, r2, r3⟩ := hcell xi q dd q2
              have : v = v' := by
                have hx := Option.some.inj hv'
                rw [hx, List.getElem!_eq_getElem?_getD, r1]; rfl
              subst this
              exact ⟨r2, ofD_conc r3⟩)
        refine ⟨_, _, G, ⟨rfl, d'.toList.map row, ?_, ?_, rfl⟩, s2, s1, .tup [] [] rfl (fun i c v h => by simp at h)⟩
        · have := hp.map row
          rw [hdl] at this
          exact this
        · exact List.pairwise_map.2 hpw

end Go.Proofs.YtcpjmkbcefmldaaGreatDoor.AM

/- The order of strings. -/
namespace Go.Proofs.YtcpjmkbcefmldaaGreatDoor.AM
open Go

theorem bl_irrefl : ∀ a : List UInt8, Op.bytesLess a a = false
  | [] => rfl
  | x :: a => by
    simp [Op.bytesLess, bl_irrefl a]

theorem bl_trans : ∀ {a b c : List UInt8}, Op.bytesLess a b = true → Op.bytesLess b c = true → Op.bytesLess a c = true
  | [], [], _, h, _ => by simp [Op.bytesLess] at h
  | [], _ :: _, [], _, h => by simp [Op.bytesLess] at h
  | [], _ :: _, _ :: _, _, _ => by simp [Op.bytesLess]
  | _ :: _, [], _, h, _ => by simp [Op.bytesLess] at h
  | _ :: _, _ :: _, [], _, h => by simp [Op.bytesLess] at h
  | x :: a, y :: b, z :: c, h1, h2 => by
    have ih := @bl_trans a b c
    simp only [Op.bytesLess, Bool.or_eq_true, Bool.and_eq_true, decide_eq_true_eq, beq_iff_eq] at *
    rcases h1 with h1 | ⟨rfl, h1⟩
    · rcases h2 with h2 | ⟨rfl, h2⟩
      · exact .inl (UInt8.lt_trans h1 h2)
      · exact .inl h1
    · rcases h2 with h2 | ⟨rfl, h2⟩
      · exact .inl h2
      · exact .inr ⟨rfl, ih h1 h2⟩

theorem bl_total : ∀ {a b : List UInt8}, Op.bytesLess a b = false → Op.bytesLess b a = false → a = b
  | [], [], _, _ => rfl
  | [], _ :: _, h, _ => by simp [Op.bytesLess] at h
  | _ :: _, [], _, h => by simp [Op.bytesLess] at h
  | x :: a, y :: b, h1, h2 => by
    have ih := @bl_total a b
    simp only [Op.bytesLess, Bool.or_eq_false_iff, Bool.and_eq_false_iff, decide_eq_false_iff_not, beq_eq_false_iff_ne] at *
    have hxy : x = y := by
      rcases Nat.lt_trichotomy x.toNat y.toNat with h | h | h
      · exact (h1.1 (UInt8.lt_iff_toNat_lt.2 h)).elim
      · exact UInt8.toNat_inj.1 h
      · exact (h2.1 (UInt8.lt_iff_toNat_lt.2 h)).elim
    subst hxy
    rw [ih (h1.2.resolve_left (by simp)) (h2.2.resolve_left (by simp))]

theorem lessB_irrefl (a : ByteArray) : lessB a a = false := bl_irrefl _
theorem lessB_trans {a b c : ByteArray} (h : lessB a b = true) (k : lessB b c = true) : lessB a c = true := bl_trans h k
theorem lessB_total {a b : ByteArray} (h : lessB a b = false) (k : lessB b a = false) : a = b := by
  have := bl_total h k
  cases a; cases b
  simp only [ByteArray.mk.injEq]
  exact Array.toList_inj.1 this
theorem lessB_asymm {a b : ByteArray} (h : lessB a b = true) : lessB b a = false := by
  cases hb : lessB b a
  · rfl
  · have := lessB_trans h hb; rw [lessB_irrefl] at this; cases this
end Go.Proofs.YtcpjmkbcefmldaaGreatDoor.AM
