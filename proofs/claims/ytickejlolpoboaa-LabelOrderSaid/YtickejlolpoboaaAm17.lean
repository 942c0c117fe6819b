/- Functions: from their bodies to their contracts. -/
import Derived.Test.YtickejlolpoboaaAm16
set_option linter.all false
namespace Go.Proofs.Ytickejlolpoboaa.AM
open Go

theorem linearise_lt (m : Region.Mode) (ops : Array Oper) : ∀ (fuel t : Nat) (listed : Array Bool) (acc : List Nat), (∀ i ∈ acc, i < ops.size) → ∀ i ∈ Region.linearise.go m ops fuel t listed acc, i < ops.size
  | 0, t, listed, acc, h, i, hi => by
    simp only [Region.linearise.go, List.mem_reverse] at hi
    exact h i hi
  | fuel + 1, t, listed, acc, h, i, hi => by
    simp only [Region.linearise.go] at hi
    split at hi
    · rename_i j hj
      refine linearise_lt m ops fuel _ _ _ ?_ i hi
      intro q hq
      rcases List.mem_cons.1 hq with rfl | hq
      · have := List.mem_of_getElem? hj
        simp only [List.mem_filter, List.mem_range] at this
        exact this.1
      · exact h q hq
    · simp only [List.mem_reverse] at hi
      exact h i hi

theorem schedule_lt (mixed : Bool) (ops : Array Oper) (t : Nat) : ∀ i ∈ Region.schedule mixed ops t, i < ops.size := by
  intro i hi
  unfold Region.schedule at hi
  split at hi
  · exact linearise_lt _ ops _ _ _ _ (by simp) i hi
  · exact linearise_lt _ ops _ _ _ _ (by simp) i hi

def loadO (P : Program) (objs : List Obj) (t : TypeId) (x : AV) : Option AV :=
  match ti P t, x with
  | some i, .ptr o off =>
    match objs[o]? with
    | some (.box cells) =>
      if off + i.size ≤ cells.length then (if i.isAgg then some (.agg ((cells.drop off).take i.size)) else if i.size = 1 then some (cells.getD off .any) else none) else none
    | _ => none
  | _, _ => none

def resO (P : Program) (s : AS) : ResultVar → Option AV
  | .tmp t => some (s.tmps.getD t .any)
  | .cell a t => loadO P s.objs t (s.tmps.getD a .any)

def resL (P : Program) (s : AS) : List ResultVar → Option (List AV)
  | [] => some []
  | r :: rs =>
    match resO P s r, resL P s rs with
    | some x, some xs => some (x :: xs)
    | _, _ => none

def oneOf : List AV → AV
  | [x] => x
  | xs => .tup xs

/-- What a function's results hold. -/
def resAV (P : Program) (s : AS) (rs : List ResultVar) : Option AV := (resL P s rs).map oneOf

theorem loadO_sound {P : Program} {G : Ghost} {objs : List Obj} {w : World} {t : TypeId} {x y : AV} {v : Value} (h : loadO P objs t x = some y) (hm : Mem G objs w) (hx : Conc G w x v) :
    ∃ r ad, v = .pointer (some ad) ∧ (loadVar t ad).run P w = .ok r w ∧ Conc G w y r := by
  have hl : loadAV P objs t x (fun z => z = y) := by
    unfold loadO at h
    unfold loadAV
    split at h
    · rename_i i o off hi
      simp only [hi]
      split at h
      · rename_i cells hob
        simp only [hob]
        split at h
        · rename_i hle
          refine ⟨hle, ?_⟩
          split at h
          · rename_i ha; rw [if_pos ha]; exact Option.some.inj h
          · rename_i ha
            rw [if_neg ha]
            split at h
            · rename_i h1; exact ⟨h1, Option.some.inj h⟩
            · cases h
        · cases h
      · cases h
    · cases h
  obtain ⟨r, z, h1, h2, rfl⟩ := load_sound (P := P) hl hm hx
  have : ∃ ad, v = .pointer (some ad) := by
    unfold loadO at h
    split at h
    · rename_i i o off hi
      cases hx with
      | ptr _ _ b hb => exact ⟨_, rfl⟩
    · cases h
  obtain ⟨ad, rfl⟩ := this
  refine ⟨r, ad, rfl, ?_, h2⟩
  simpa [Instr.loadAt, Instr.sureAddr] using h1

theorem resL_sound {P : Program} {G : Ghost} {s : AS} {a : Act} {w : World} (hs : Sat G s a w) : ∀ {rs : List ResultVar} {xs : List AV}, resL P s rs = some xs →
    ∃ vs, (rs.mapM (fun | .tmp t => pure (a.tmps.getD t undef) | .cell p t => do loadVar t (← asAddr (a.tmps.getD p undef)) : ResultVar → Sem Value)).run P w = .ok vs w ∧ ConcL G w xs vs
  | [], xs, h => by cases h; exact ⟨[], by simp, rfl, fun i x v hx => by simp at hx⟩
  | r :: rs, xs, h => by
    simp only [resL] at h
    cases h1 : resO P s r with
    | none => simp [h1] at h
    | some x =>
      cases h2 : resL P s rs with
      | none => simp [h1, h2] at h
      | some xs' =>
        simp only [h1, h2, Option.some.injEq] at h
        subst h
        obtain ⟨vs, k1, k2⟩ := resL_sound hs h2
        have hone : ∃ v, ((fun | .tmp t => pure (a.tmps.getD t undef) | .cell p t => do loadVar t (← asAddr (a.tmps.getD p undef)) : ResultVar → Sem Value) r).run P w = .ok v w ∧ Conc G w x v := by
          cases r with
          | tmp t =>
            cases h1
            exact ⟨_, rfl, hs.raw (.tmp t)⟩
          | cell p t =>
            have hp := hs.raw (.tmp p)
            obtain ⟨r', ad, e1, e2, e3⟩ := loadO_sound (P := P) h1 hs.mem hp
            refine ⟨r', ?_, e3⟩
            have e1' : a.tmps.getD p undef = .pointer (some ad) := e1
            simp only [e1', asAddr, Sem.run_bind, Sem.run_pure, Result.andThen_ok]
            exact e2
        obtain ⟨v, e1, e2⟩ := hone
        refine ⟨v :: vs, ?_, by simp [k2.1], fun i y u hy hu => ?_⟩
        · simp only [List.mapM_cons, Sem.run_bind, e1, Result.andThen_ok, k1, Sem.run_pure]
        · cases i with
          | zero => simp at hy hu; subst hy; subst hu; exact e2
          | succ i => exact k2.2 i y u (by simpa using hy) (by simpa using hu)

theorem resAV_sound {P : Program} {G : Ghost} {s : AS} {a : Act} {w : World} (hs : Sat G s a w) {fn : Func} {x : AV} (h : resAV P s fn.results.toList = some x) :
    ∃ v, (results fn a.tmps).run P w = .ok v w ∧ Conc G w x v := by
  unfold resAV at h
  cases h1 : resL P s fn.results.toList with
  | none => simp [h1] at h
  | some xs =>
    simp only [h1, Option.map_some, Option.some.injEq] at h
    subst h
    obtain ⟨vs, k1, k2⟩ := resL_sound hs h1
    have hrun : (fn.results.mapM (fun | .tmp t => pure (a.tmps.getD t undef) | .cell p t => do loadVar t (← asAddr (a.tmps.getD p undef)) : ResultVar → Sem Value)).run P w = .ok vs.toArray w := by
      rw [← Array.toArray_toList (xs := fn.results), List.mapM_toArray]
      change Sem.run P (do let a ← List.mapM _ fn.results.toList; pure a.toArray) w = _
      rw [Sem.run_bind, k1]
      rfl
    refine ⟨if h : vs.toArray.size = 1 then vs.toArray[0] else .tuple vs.toArray, ?_, ?_⟩
    · unfold results
      rw [Sem.run_bind]
      exact congrArg (fun r : Result (Array Value) => r.andThen fun (a : Array Value) w' => Sem.run P (pure (if h : a.size = 1 then a[0] else .tuple a)) w') hrun
    · match xs, vs, k2 with
      | [], [], _ => exact .tup [] [] rfl (fun i c v hc => by simp at hc)
      | [x], [v], k2 => exact k2.2 0 x v rfl rfl
      | x :: y :: xs, u :: v :: vs, k2 =>
        have : ¬ ((u :: v :: vs).toArray.size = 1) := by simp
        rw [dif_neg this]
        exact .tup _ _ k2.1 k2.2
      | [], _ :: _, k2 => exact absurd k2.1 (by simp)
      | [_], [], k2 => exact absurd k2.1 (by simp)
      | [_], _ :: _ :: _, k2 => exact absurd k2.1 (by simp)
      | _ :: _ :: _, [], k2 => exact absurd k2.1 (by simp)
      | _ :: _ :: _, [_], k2 => exact absurd k2.1 (by simp)

/-- Behind a function's body. -/
def bodyQ (P : Program) (n0 : Nat) (rs : List ResultVar) (R : AEnd → List Obj → Prop) : AX → AS → Prop
  | .exit _, _ => False
  | _, s => ∃ x, resAV P s rs = some x ∧ ∃ x' objs', Weak n0 ⟨[x], s.objs⟩ ⟨[x'], objs'⟩ ∧ R (.ret x') objs'

theorem ACall.of_awp {P : Program} {f : Nat} {fn : Func} {c : Code} {args : List AV} {objs : List Obj} {R : AEnd → List Obj → Prop} (hf : P.funcs[f]? = some fn) (hb : fn.body = some c)
    (h : awp P objs.length c ⟨args ++ List.replicate (fn.ntmps - args.length) .any, objs⟩ (bodyQ P objs.length fn.results.toList R) (fun x objs' => R (.pan x) objs')) : ACall P f args objs R := by
  intro G w vs hm hc
  refine calls_of_wp hf hb ?_
  have hsat : Sat G ⟨args ++ List.replicate (fn.ntmps - args.length) .any, objs⟩ { tmps := vs.toArray ++ Array.replicate (fn.ntmps - vs.toArray.size) undef, defers := [] } w := by
    refine ⟨hm, ?_, rfl⟩
    have := hc.append (ys := List.replicate (fn.ntmps - args.length) .any) (vs := List.replicate (fn.ntmps - args.length) undef) ⟨by simp, fun i x v hx hv => by
      rw [List.getElem?_replicate] at hx
      split at hx
      · cases hx; exact .any v
      · cases hx⟩
    simpa [hc.1] using this
  refine wp_mono (awp_sound hm.len (fun ops t i hi => schedule_lt _ ops t i hi) c _ _ G _ w h ⟨Step.refl G w, hsat⟩) ?_
  rintro e a' w' (⟨ax, s', G', h1, h2, h3⟩ | ⟨x, objs', G', v, h1, h2, h3, h4, h5, rfl⟩)
  · have key : (∃ x, resAV P s' fn.results.toList = some x ∧ ∃ x' objs', Weak objs.length ⟨[x], s'.objs⟩ ⟨[x'], objs'⟩ ∧ R (.ret x') objs') → a'.defers = [] ∧ ∃ v, (results fn a'.tmps).run P w' = .ok v w' ∧
        ∃ ae objs' G', R ae objs' ∧ Mem G' objs' w' ∧ Step G w G' w' ∧ EndOk G' w' ae (.returned v) := by
      rintro ⟨x, k2, x', objs', k1, k3⟩
      obtain ⟨v, hv, hcv⟩ := resAV_sound (P := P) h3.sat k2
      have hone : From G w G' ⟨[x], s'.objs⟩ { tmps := #[v], defers := [] } w' := ⟨h3.step, h3.sat.mem, ⟨rfl, fun i y u hy hu => by
        cases i with
        | zero => simp at hy hu; subst hy; subst hu; exact hcv
        | succ i => simp at hy⟩, rfl⟩
      obtain ⟨G'', hf''⟩ := k1 G w G' _ w' hm.len hone
      have hcv' := hf''.sat.tmps.2 0 x' v rfl rfl
      exact ⟨h3.sat.defers, v, hv, .ret x', objs', G'', k3, hf''.sat.mem, hf''.step, hcv'⟩
    cases ax <;> cases e <;> first | exact h2.elim | skip
    · exact key h1
    · exact h1.elim
    · exact key h1
  · exact ⟨h2, .pan x, objs', G', h1, h3, h4, v, rfl, h5⟩

/-! ### What may be forgotten -/

def AV.le0 (x y : AV) : Prop :=
  y = .any ∨ x = y ∨ (∃ rows t, x = .sl rows t ∧ t.isOwn = false ∧ y = .sl rows .none) ∨ (x = .v (.slice none 0 0) ∧ (y = .sl [] .none ∨ y = .sl [] .exact))

def AV.le0L : List AV → List AV → Prop
  | [], [] => True
  | x :: xs, y :: ys => x.le0 y ∧ AV.le0L xs ys
  | _, _ => False

def AV.le (x y : AV) : Prop := x.le0 y ∨ ∃ cs ds, x = .agg cs ∧ y = .agg ds ∧ AV.le0L cs ds

theorem AV.le_any (x : AV) : x.le .any := .inl (.inl rfl)
theorem AV.le_refl (x : AV) : x.le x := .inl (.inr (.inl rfl))
theorem AV.le_sl (rows : List (List D)) : (AV.sl rows .exact).le (.sl rows .none) := .inl (.inr (.inr (.inl ⟨rows, .exact, rfl, rfl, rfl⟩)))
theorem AV.le_sln (rows : List (List D)) (t : Tk) (h : t.isOwn = false) : (AV.sl rows t).le (.sl rows .none) := .inl (.inr (.inr (.inl ⟨rows, t, rfl, h, rfl⟩)))
theorem AV.le_nil : (AV.v (.slice none 0 0)).le (.sl [] .none) := .inl (.inr (.inr (.inr ⟨rfl, .inl rfl⟩)))
theorem AV.le_of_eq {x y : AV} (h : x = y) : x.le y := .inl (.inr (.inl h))
theorem AV.le_agg {cs ds : List AV} (h : AV.le0L cs ds) : (AV.agg cs).le (.agg ds) := .inr ⟨cs, ds, rfl, rfl, h⟩
theorem AV.le0_refl (x : AV) : x.le0 x := .inr (.inl rfl)
theorem AV.le0_nil : (AV.v (.slice none 0 0)).le0 (.sl [] .none) := .inr (.inr (.inr ⟨rfl, .inl rfl⟩))
theorem AV.le0_sl (rows : List (List D)) (t : Tk) (h : t.isOwn = false) : (AV.sl rows t).le0 (.sl rows .none) := .inr (.inr (.inl ⟨rows, t, rfl, h, rfl⟩))

theorem AV.le0_sound {G : Ghost} {w : World} {x y : AV} {v : Value} (h : x.le0 y) (hc : Conc G w x v) : Conc G w y v := by
  rcases h with rfl | rfl | ⟨rows, t, rfl, ho, rfl⟩ | ⟨rfl, rfl | rfl⟩
  · exact .any v
  · exact hc
  · cases hc with
    | sl _ _ _ hd _ => exact .sl _ .none _ (by rw [im_of_not_own G (t := .none) (t' := t) rfl ho]; exact hd) trivial
  · cases hc; exact .sl [] .none _ (SlC.nil none 0 (by simp [maxLen])) trivial
  · cases hc; exact .sl [] .exact _ (SlC.nil none 0 (by simp [maxLen])) ⟨none, rfl⟩

theorem AV.le0L_len : ∀ {xs ys : List AV}, AV.le0L xs ys → xs.length = ys.length
  | [], [], _ => rfl
  | _ :: xs, _ :: ys, h => by simp [AV.le0L_len (xs := xs) (ys := ys) h.2]
  | [], _ :: _, h => h.elim
  | _ :: _, [], h => h.elim
theorem AV.le0L_get : ∀ {xs ys : List AV}, AV.le0L xs ys → ∀ (i : Nat) (x y : AV), xs[i]? = some x → ys[i]? = some y → x.le0 y
  | [], [], _, i, x, y, h, _ => by simp at h
  | a :: xs, b :: ys, h, 0, x, y, h1, h2 => by simp at h1 h2; subst h1; subst h2; exact h.1
  | a :: xs, b :: ys, h, i + 1, x, y, h1, h2 => AV.le0L_get (xs := xs) (ys := ys) h.2 i x y (by simpa using h1) (by simpa using h2)
  | [], _ :: _, h, _, _, _, _, _ => h.elim
  | _ :: _, [], h, _, _, _, _, _ => h.elim

theorem AV.le_sound {G : Ghost} {w : World} {x y : AV} {v : Value} (h : x.le y) (hc : Conc G w x v) : Conc G w y v := by
  rcases h with h | ⟨cs, ds, rfl, rfl, h⟩
  · exact AV.le0_sound h hc
  · cases hc with
    | agg _ vs hl h1 h2 =>
      refine .agg ds vs (by rw [hl, AV.le0L_len h]) h1 fun i c u hcc hu => ?_
      have hi : i < cs.length := by rw [AV.le0L_len h]; exact (List.getElem?_eq_some_iff.1 hcc).1
      exact AV.le0_sound (AV.le0L_get h i cs[i] c (List.getElem?_eq_getElem hi) hcc) (h2 i cs[i] u (List.getElem?_eq_getElem hi) hu)

def AV.leL : List AV → List AV → Prop
  | [], [] => True
  | x :: xs, y :: ys => x.le y ∧ AV.leL xs ys
  | _, _ => False

theorem AV.leL_sound {G : Ghost} {w : World} : ∀ {xs ys : List AV} {vs : List Value}, AV.leL xs ys → ConcL G w xs vs → ConcL G w ys vs
  | [], [], _, _, h => h
  | x :: xs, y :: ys, vs, hl, h => by
    obtain ⟨h1, h2⟩ := hl
    cases vs with
    | nil => exact absurd h.1 (by simp)
    | cons v vs =>
      have ih := AV.leL_sound (vs := vs) h2 ⟨by simpa using h.1, fun i c u hc hu => h.2 (i + 1) c u (by simpa using hc) (by simpa using hu)⟩
      refine ⟨by simp [ih.1], fun i c u hc hu => ?_⟩
      cases i with
      | zero => simp at hc hu; subst hc; subst hu; exact AV.le_sound h1 (h.2 0 x v rfl rfl)
      | succ i => exact ih.2 i c u (by simpa using hc) (by simpa using hu)
  | [], _ :: _, _, h, _ => h.elim
  | _ :: _, [], _, h, _ => h.elim

theorem Weak.le {n0 : Nat} {s : AS} {tmps : List AV} (h : AV.leL s.tmps tmps) : Weak n0 s ⟨tmps, s.objs⟩ :=
  fun _ _ G _ _ _ hf => ⟨G, hf.step, hf.sat.mem, AV.leL_sound h hf.sat.tmps, hf.sat.defers⟩

def Tk.idsLt (n : Nat) : Tk → Bool
  | .own o => decide (o < n)
  | _ => true

mutual
def AV.idsLt (n : Nat) : AV → Bool
  | .v _ => true
  | .sl _ t => t.idsLt n
  | .agg cs => AV.idsLtL n cs
  | .tup cs => AV.idsLtL n cs
  | .ptr o _ => decide (o < n)
  | .ep _ _ _ t => t.idsLt n
  | .bsl o _ _ => decide (o < n)
  | .map o => decide (o < n)
  | .fn _ a b => AV.idsLtL n a && AV.idsLtL n b
  | .cnd _ x => x.idsLt n
  | .any => true
def AV.idsLtL (n : Nat) : List AV → Bool
  | [] => true
  | x :: xs => x.idsLt n && AV.idsLtL n xs
end

def Obj.idsLt (n : Nat) : Obj → Bool
  | .box cs => AV.idsLtL n cs
  | .map es => es.all fun e => e.2.idsLt n
  | _ => true

theorem belowL_get {n : Nat} : ∀ {xs : List AV}, AV.idsLtL n xs = true → ∀ (i : Nat) (x : AV), xs[i]? = some x → x.idsLt n = true
  | [], _, i, x, h => by simp at h
  | y :: ys, hb, i, x, h => by
    simp only [AV.idsLtL, Bool.and_eq_true] at hb
    cases i with
    | zero => simp at h; subst h; exact hb.1
    | succ i => exact belowL_get hb.2 i x (by simpa using h)

theorem take_get {α : Type} {l : List α} {n o : Nat} {x : α} (ho : o < n) (h : l[o]? = some x) : (l.take n)[o]? = some x := by
  rw [List.getElem?_take, if_pos ho]; exact h

theorem im_trunc {G : Ghost} {n : Nat} {t : Tk} (ht : t.idsLt n = true) {b off : Nat} (h : G.im t b off) : Ghost.im ⟨G.bl.take n, G.imm⟩ t b off := by
  cases t with
  | none => exact h
  | exact => exact h
  | own o =>
    simp only [Tk.idsLt, decide_eq_true_eq] at ht
    rcases h with h | ⟨len, cap, sz, h1, h2⟩
    · exact .inl h
    · exact .inr ⟨len, cap, sz, take_get ht h1, h2⟩

theorem Conc.trunc {G : Ghost} {w : World} {n : Nat} {x : AV} {v : Value} (h : Conc G w x v) : x.idsLt n = true → Conc ⟨G.bl.take n, G.imm⟩ w x v := by
  induction h with
  | v x hx => exact fun _ => .v x hx
  | any x => exact fun _ => .any x
  | cnd g y x _ h' ih => exact fun hb => .cnd g y x (fun hg => ih hg (by simpa [AV.idsLt] using hb)) h'
  | sl rows t x hd ht =>
    intro hb
    simp only [AV.idsLt] at hb
    refine .sl rows t x (hd.mono (fun _ _ _ => rfl) (fun b off h => im_trunc hb h) (fun _ _ _ => rfl) (fun _ _ h => h)) ?_
    cases t with
    | none => trivial
    | exact => exact ht
    | own o =>
      simp only [Tk.idsLt, decide_eq_true_eq] at hb
      rcases ht with ⟨l, h1, h2⟩ | ⟨b, l, c, sz, ex, h1, h2⟩
      · exact .inl ⟨l, take_get hb h1, h2⟩
      · exact .inr ⟨b, l, c, sz, ex, take_get hb h1, h2⟩
  | agg cs vs hl h1 _ ih => exact fun hb => .agg cs vs hl h1 fun i c v hc hv => ih i c v hc hv (belowL_get (by simpa [AV.idsLt] using hb) i c hc)
  | tup cs vs hl _ ih => exact fun hb => .tup cs vs hl fun i c v hc hv => ih i c v hc hv (belowL_get (by simpa [AV.idsLt] using hb) i c hc)
  | ptr o off b h => exact fun hb => .ptr o off b (take_get (by simpa [AV.idsLt] using hb) h)
  | ep rows i off t b st sz h => exact fun hb => .ep rows i off t b st sz (h.mono (fun _ _ _ => rfl) (fun b off h => im_trunc (by simpa [AV.idsLt] using hb) h) (fun _ _ _ => rfl) (fun _ _ h => h))
  | bsl o off len cap b h h1 h2 => exact fun hb => .bsl o off len cap b (take_get (by simpa [AV.idsLt] using hb) h) h1 h2
  | bsl0 o off cap a h2 => exact fun _ => .bsl0 o off cap a h2
  | map o b h => exact fun hb => .map o b (take_get (by simpa [AV.idsLt] using hb) h)
  | fn f first cap vf vc h1 h2 _ _ ih1 ih2 =>
    intro hb
    simp only [AV.idsLt, Bool.and_eq_true] at hb
    exact .fn f first cap vf vc h1 h2 (fun i c v hc hv => ih1 i c v hc hv (belowL_get hb.1 i c hc)) (fun i c v hc hv => ih2 i c v hc hv (belowL_get hb.2 i c hc))

def belowObjs (n : Nat) : List Obj → Bool
  | [] => true
  | x :: xs => x.idsLt n && belowObjs n xs

theorem belowObjs_get {n : Nat} : ∀ {xs : List Obj}, belowObjs n xs = true → ∀ (i : Nat) (x : Obj), xs[i]? = some x → x.idsLt n = true
  | [], _, i, x, h => by simp at h
  | y :: ys, hb, i, x, h => by
    simp only [belowObjs, Bool.and_eq_true] at hb
    cases i with
    | zero => simp at h; subst h; exact hb.1
    | succ i => exact belowObjs_get hb.2 i x (by simpa using h)

theorem take_get' {α : Type} {l : List α} {n o : Nat} {x : α} (h : (l.take n)[o]? = some x) : o < n ∧ l[o]? = some x := by
  rw [List.getElem?_take] at h
  split at h
  · rename_i ho; exact ⟨ho, h⟩
  · cases h

/-- The last objects are forgotten. -/
theorem Weak.drop {n0 : Nat} {s : AS} (objs extra : List Obj) (ho : s.objs = objs ++ extra) (hn : n0 ≤ objs.length) (h1 : AV.idsLtL objs.length s.tmps = true) (h2 : belowObjs objs.length objs = true) :
    Weak n0 s ⟨s.tmps, objs⟩ := by
  intro G0 w0 G a w hn0 hf
  refine ⟨⟨G.bl.take objs.length, G.imm⟩, ?_, ?_, ?_, hf.sat.defers⟩
  · have key : ∀ (o : Nat) (g : GB), G0.bl[o]? = some g → o < objs.length := by
      intro o g hg
      have : o < G0.bl.length := by
        rcases Nat.lt_or_ge o G0.bl.length with h | h
        · exact h
        · rw [List.getElem?_eq_none h] at hg; cases hg
      omega
    refine ⟨⟨hf.step.ext.cells, ?_, fun o b h => take_get (key o _ h) (hf.step.ext.obj o b h), ?_, ?_⟩, hf.step.heap, hf.step.size, hf.step.os, hf.step.tape, hf.step.output, hf.step.imm2, ?_⟩
    · intro t b off ht
      have h' := hf.step.ext.im t b off ht
      rcases im_cases ht with hi | ⟨o, len, cap, sz, rfl, h1, _⟩
      · exact Ghost.imm_im _ t (hf.step.ext.imm b off hi)
      · exact im_trunc (by simp only [Tk.idsLt, decide_eq_true_eq]; exact key o _ h1) h'
    · intro o l h
      rcases hf.step.ext.full o l h with h' | ⟨b, l', c, sz, ex, h', hlt⟩
      · exact .inl (take_get (key o _ h) h')
      · exact .inr ⟨b, l', c, sz, ex, take_get (key o _ h) h', hlt⟩
    · intro o b l c sz ex h
      obtain ⟨b', l', c', sz', ex', h', hx⟩ := hf.step.ext.tok o b l c sz ex h
      exact ⟨b', l', c', sz', ex', take_get (key o _ h) h', hx⟩
    · intro o g b h hb
      exact hf.step.blk o g b (take_get' h).2 hb
  · have hm := hf.sat.mem
    have hlen : G.bl.length = objs.length + extra.length := by rw [hm.len, ho, List.length_append]
    refine ⟨by simp; omega, ?_, ?_, ?_, hm.immLt⟩
    · intro o x g hx hg
      obtain ⟨hol, hg'⟩ := take_get' hg
      have hx' : s.objs[o]? = some x := by rw [ho, List.getElem?_append_left hol]; exact hx
      have hok := hm.ok o x g hx' hg'
      have hb := belowObjs_get h2 o x hx
      cases x with
      | box cells =>
        rcases hok with hok | ⟨b, c, e, e1, e2, e3, e4, e5⟩
        · exact .inl hok
        exact .inr ⟨b, c, e, e1, e2, e3, fun j x v hj hv => ⟨(e4 j x v hj hv).1, (e4 j x v hj hv).2.trunc (belowL_get (by simpa [Obj.idsLt] using hb) j x hj)⟩, e5⟩
      | tok len sz e ex => exact hok
      | map es =>
        obtain ⟨b, ents, clock, e1, e2, e3, e4, e5, e6⟩ := hok
        refine ⟨b, ents, clock, e1, e2, e3, fun i k y e hi he => ⟨(e4 i k y e hi he).1, (e4 i k y e hi he).2.1.trunc ?_, (e4 i k y e hi he).2.2⟩, e5, e6⟩
        have hall : es.all (fun e => e.2.idsLt objs.length) = true := hb
        exact List.all_eq_true.1 hall _ (List.mem_of_getElem? hi)
      | dead => exact hok
    · intro o o' g g' b h1 h2; exact hm.inj o o' g g' b (take_get' h1).2 (take_get' h2).2
    · intro o g b h; exact hm.lt o g b (take_get' h).2
  · exact ⟨hf.sat.tmps.1, fun i x v hx hv => (hf.sat.tmps.2 i x v hx hv).trunc (belowL_get h1 i x hx)⟩

theorem le_tmps {xs ys : List AV} (i : Nat) (x y : AV) (h : AV.leL xs ys) (hx : xs[i]? = some x) (hy : ys[i]? = some y) : x.le y := by
  induction xs generalizing ys i with
  | nil => simp at hx
  | cons a xs ih =>
    cases ys with
    | nil => exact h.elim
    | cons b ys =>
      cases i with
      | zero => simp at hx hy; subst hx; subst hy; exact h.1
      | succ i => exact ih (ys := ys) i h.2 (by simpa using hx) (by simpa using hy)

/-- A slice that is none yet becomes a row of one's own. -/
theorem Weak.tok {n0 : Nat} {s : AS} (i sz e : Nat) (ex : Bool) (h : s.tmps[i]? = some (.v (.slice none 0 0))) :
    Weak n0 s ⟨s.tmps.set i (.sl [] (.own s.objs.length)), s.objs ++ [.tok 0 sz e ex]⟩ := by
  intro G0 w0 G a w hn0 hf
  have hm := hf.sat.mem
  have hst := hf.step.push (.full 0) (by intro b hb; cases hb)
  refine ⟨⟨G.bl ++ [.full 0], G.imm⟩, hst, Mem.push hm (.inl ⟨rfl, fun _ => rfl⟩) (by intro b hb; cases hb), ?_, hf.sat.defers⟩
  have hmono := hf.sat.tmps.mono (ext_push G w (.full 0))
  have hi : i < a.tmps.toList.length := by
    rw [hf.sat.tmps.1]
    rcases Nat.lt_or_ge i s.tmps.length with hl | hl
    · exact hl
    · rw [List.getElem?_eq_none hl] at h; cases h
  have hv := hf.sat.tmps.2 i _ _ h (List.getElem?_eq_getElem hi)
  have hv' := conc_v hv
  have := hmono.set i (x := .sl [] (.own s.objs.length)) (v := .slice none 0 0) (.sl [] _ _ (SlC.nil none 0 (by simp [maxLen])) (.inl ⟨0, by rw [← hm.len]; simp, Nat.le_refl _, fun _ => ⟨none, rfl⟩⟩))
  have hself : a.tmps.toList.set i (.slice none 0 0) = a.tmps.toList := list_set_self (by rw [List.getElem?_eq_getElem hi, hv'])
  rwa [hself] at this

end Go.Proofs.Ytickejlolpoboaa.AM
