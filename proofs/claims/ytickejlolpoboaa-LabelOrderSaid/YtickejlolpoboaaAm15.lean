/- The operations, all together. -/
import Derived.Test.YtickejlolpoboaaAm14m
set_option linter.all false
namespace Go.Proofs.Ytickejlolpoboaa.AM
open Go

inductive AEnd where
  | ret (x : AV) | pan (x : AV)

def EndOk (G : Ghost) (w : World) : AEnd → Ending → Prop
  | .ret x, .returned v => Conc G w x v
  | .pan x, .panicked chain => ∃ v, chain = [{ v, recovered := false }] ∧ Conc G w x v
  | _, _ => False

/-- A function's contract: called with what these values stand for, it ends in one of the ways of R. -/
def ACall (P : Program) (f : Nat) (args : List AV) (objs : List Obj) (R : AEnd → List Obj → Prop) : Prop :=
  ∀ (G : Ghost) (w : World) (vs : List Value), Mem G objs w → ConcL G w args vs →
    Calls P f vs.toArray w fun e w' => ∃ ae objs' G', R ae objs' ∧ Mem G' objs' w' ∧ Step G w G' w' ∧ EndOk G' w' ae e

theorem ACall.mono {P : Program} {f : Nat} {args : List AV} {objs : List Obj} {R R' : AEnd → List Obj → Prop} (h : ACall P f args objs R) (hr : ∀ e o, R e o → R' e o) : ACall P f args objs R' :=
  fun G w vs hm hc => (h G w vs hm hc).mono fun _ _ ⟨ae, objs', G', h1, h2⟩ => ⟨ae, objs', G', hr _ _ h1, h2⟩

def enters (P : Program) (f : Nat) : Bool :=
  match P.funcs[f]? with
  | some fn => !(fn.name == "runtime.NumGoroutine") && fn.body.isSome
  | none => false

def callK (K : AV → List Obj → Prop) (E : AV → List Obj → Prop) : AEnd → List Obj → Prop
  | .ret x, objs => K x objs
  | .pan x, objs => E x objs

def callAV (P : Program) (f : Nat) (args : List AV) (objs : List Obj) (K : AV → List Obj → Prop) (E : AV → List Obj → Prop) : Prop :=
  enters P f = true ∧ ACall P f args objs (callK K E)

def nilCheckAV (x : AV) (k : AV → Prop) : Prop :=
  match x with
  | .ptr o off => k (.ptr o off)
  | .ep rows i off t => k (.ep rows i off t)
  | .fn f a b => k (.fn f a b)
  | _ => False

def storeAV (P : Program) (objs : List Obj) (t : TypeId) (a x : AV) (k : List Obj → Prop) : Prop :=
  match ti P t, a, cellsAV x with
  | some i, .ptr o off, some xs =>
    match objs[o]? with
    | some (.box cells) => xs.length = i.size ∧ off + xs.length ≤ cells.length ∧ k (objs.set o (.box (setFrom cells off xs)))
    | _ => False
  | _, _, _ => False

def minmaxAV (least : Bool) (xs : List AV) (k : AV → Prop) : Prop :=
  match xs with
  | [.v (.int q a), .v (.int _ b)] => k (.v (.int q (if least then min a b else max a b)))
  | _ => False

def builtinAV (P : Program) (b : Builtin) (ts : List TypeId) (xs : List AV) (objs : List Obj) (k : AV → List Obj → Prop) : Prop :=
  match b with
  | .len => (match ts, xs with | [t], [x] => lenAV P t x (fun r => k r objs) | _, _ => False)
  | .append => (match ts, xs with | [t, xt], [s, x] => appendAV P t xt objs s x k | _, _ => False)
  | .min => minmaxAV true xs (fun r => k r objs)
  | .max => minmaxAV false xs (fun r => k r objs)
  | _ => False

/-- A bool, and the condition under which it is known. -/
def AV.boolUn : AV → Option (Bool × Bool)
  | .v (.bool b) => some (true, b)
  | .cnd g (.v (.bool b)) => some (g, b)
  | _ => none

def pickAV (c x y : AV) (k : AV → Prop) : Prop :=
  match c, x.boolUn, y.boolUn with
  | .v (.bool t), some (g, p), some (h, q) => (t = true → g = true) ∧ (t = false → h = true) ∧ k (.v (.bool (bif t then p else q)))
  | .v (.bool t), some (g, p), none => t = true ∧ g = true ∧ k (.v (.bool p))
  | .v (.bool t), none, some (h, q) => t = false ∧ h = true ∧ k (.v (.bool q))
  | _, _, _ => False

def aop (P : Program) (o : Oper) (s : AS) (K : AS → Prop) (E : AV → List Obj → Prop) : Prop :=
  match o.op with
  | .move x => K (s.put o.dst (s.eval x))
  | .assign x => K (s.put o.dst (s.eval x))
  | .pick c a b => pickAV (s.eval c) (s.raw a) (s.raw b) (fun r => K (s.put o.dst r))
  | .nilCheck x => nilCheckAV (s.eval x) (fun r => K (s.put o.dst r))
  | .alloc e => (match ti P e with | some i => K { s.put o.dst (.ptr s.objs.length 0) with objs := s.objs ++ [.box (i.zero.map .v)] } | none => False)
  | .box e x => (match ti P e, cellsAV (s.eval x) with | some _, some cs => K { s.put o.dst (.ptr s.objs.length 0) with objs := s.objs ++ [.box cs] } | _, _ => False)
  | .build t parts => buildAV P t (parts.toList.map fun p => (p.1, s.eval p.2)) (fun r => K (s.put o.dst r))
  | .buildSlice t len parts => buildSliceAV P t len (parts.toList.map fun p => (p.1, s.eval p.2)) (fun r => K (s.put o.dst r))
  | .load t a => loadAV P s.objs t (s.eval a) (fun r => K (s.put o.dst r))
  | .store t a x => storeAV P s.objs t (s.eval a) (s.eval x) (fun objs => K { s.put o.dst .any with objs := objs })
  | .binOp op t x y _ => binAV P op t (s.eval x) (s.eval y) (fun r => K (s.put o.dst r))
  | .unOp op _ x => unAV op (s.eval x) (fun r => K (s.put o.dst r))
  | .convert src dst x => convAV P src dst (s.eval x) (fun r => K (s.put o.dst r))
  | .makeFunc fn first cap => (match fn with | .func f => K (s.put o.dst (.fn f (first.toList.map s.eval) (cap.toList.map s.eval))) | _ => False)
  | .makeSlice t l c => makeSliceAV P t s.objs (s.eval l) (s.eval c) (fun r objs => K { s.put o.dst r with objs := objs })
  | .slice t x lo hi mx => sliceAV P t (s.eval x) (lo.map s.eval) (hi.map s.eval) (mx.map s.eval) (fun r => K (s.put o.dst r))
  | .fieldAddr t x f => fieldAddrAV P t f (s.eval x) (fun r => K (s.put o.dst r))
  | .field t x f => fieldAV P t f (s.eval x) (fun r => K (s.put o.dst r))
  | .indexAddr t x i => indexAddrAV P t (s.eval x) (s.eval i) (fun r => K (s.put o.dst r))
  | .index t x i => indexAV P t (s.eval x) (s.eval i) (fun r => K (s.put o.dst r))
  | .makeMap _ r => (match r with | none => K { s.put o.dst (.map s.objs.length) with objs := s.objs ++ [.map []] } | some _ => False)
  | .lookup t m k ok => lookupAV P s.objs t (s.eval m) (s.eval k) ok (fun r => K (s.put o.dst r))
  | .mapUpdate t m k x => mapUpdateAV P s.objs t (s.eval m) (s.eval k) (s.eval x) (fun objs => K { s.put o.dst .any with objs := objs })
  | .extract x i => extractAV (s.eval x) i (fun r => K (s.put o.dst r))
  | .call c =>
    (match c.callee with
    | .builtin b => builtinAV P b c.argTypes.toList (c.args.toList.map s.eval) s.objs (fun r objs => K { s.put o.dst r with objs := objs })
    | .value f =>
      (match s.eval f with
      | .fn g first cap => callAV P g (first ++ c.args.toList.map s.eval ++ cap) s.objs (fun r objs => K { s.put o.dst r with objs := objs }) E
      | _ => False)
    | _ => False)
  | _ => False

def NextOk (K : AS → Prop) (G : Ghost) (w : World) (a' : Act) (w' : World) : Prop := ∃ s' G', K s' ∧ Sat G' s' a' w' ∧ Step G w G' w'

theorem evalList {G : Ghost} {s : AS} {a : Act} {w : World} (h : Sat G s a w) (xs : List Operand) : ConcL G w (xs.map s.eval) (xs.map a.eval) := by
  refine ⟨by simp, fun i x v hx hv => ?_⟩
  simp only [List.getElem?_map] at hx hv
  cases hq : xs[i]? with
  | none => simp [hq] at hx
  | some q =>
    simp only [hq, Option.map_some, Option.some.injEq] at hx hv
    subst hx; subst hv
    exact h.eval q

theorem evalParts {G : Ghost} {s : AS} {a : Act} {w : World} (h : Sat G s a w) (ps : List (Nat × Operand)) :
    ∀ (i : Nat) (p : Nat × AV) (q : Nat × Value), (ps.map fun p => (p.1, s.eval p.2))[i]? = some p → (ps.map fun p => (p.1, a.eval p.2))[i]? = some q → p.1 = q.1 ∧ Conc G w p.2 q.2 := by
  intro i p q hp hq
  simp only [List.getElem?_map] at hp hq
  cases hx : ps[i]? with
  | none => simp [hx] at hp
  | some x =>
    simp only [hx, Option.map_some, Option.some.injEq] at hp hq
    subst hp; subst hq
    exact ⟨rfl, h.eval x.2⟩

theorem evalO {G : Ghost} {s : AS} {a : Act} {w : World} (h : Sat G s a w) (x : Option Operand) : ConcO G w (x.map s.eval) (x.map a.eval) := by
  cases x with
  | none => trivial
  | some x => exact h.eval x

section ops
variable {P : Program} {o : Oper} {a : Act} {w : World} {next : Act → World → Prop} {Q : Exit → Act → World → Prop}

theorem op_value {x : Sem Value} {r : Value} {w' : World} (he : execOp a.eval o = (do pure (.value (← x)))) (hr : x.run P w = .ok r w') (h : next (a.put o.dst r) w') : o.wp P a w next Q := by
  unfold Oper.wp
  rw [he]
  simp only [Sem.run_bind, hr, Result.andThen_ok, Sem.run_pure]
  exact h

variable {G : Ghost} {s : AS} {K : AS → Prop}

theorem case_value {x : Sem Value} (hs : Sat G s a w) (he : execOp a.eval o = (do pure (.value (← x))))
    (h : ∃ r y, x.run P w = .ok r w ∧ Conc G w y r ∧ K (s.put o.dst y)) : o.wp P a w (NextOk K G w) Q := by
  obtain ⟨r, y, h1, h2, h3⟩ := h
  exact op_value he h1 ⟨_, G, h3, hs.put0 o.dst h2, Step.refl G w⟩

theorem case_mem {x : Sem Value} (hs : Sat G s a w) (he : execOp a.eval o = (do pure (.value (← x))))
    (h : ∃ r y objs' G' w', x.run P w = .ok r w' ∧ Step G w G' w' ∧ Mem G' objs' w' ∧ Conc G' w' y r ∧ K { s.put o.dst y with objs := objs' }) : o.wp P a w (NextOk K G w) Q := by
  obtain ⟨r, y, objs', G', w', h1, h2, h3, h4, h5⟩ := h
  exact op_value he h1 ⟨_, G', h5, hs.put h2.ext h3 o.dst h4, h2⟩
end ops

theorem min_run {P : Program} {w : World} (ts : Array TypeId) (ty : TypeId) (q q' : IntKind) (a b : Int) : (Builtin.min_ ts ty #[.int q a, .int q' b]).run P w = .ok (.int q (min a b)) w := by
  have : (if b < a then b else a) = min a b := by split <;> omega
  simp [Builtin.min_, Builtin.min2, this]

theorem max_run {P : Program} {w : World} (ts : Array TypeId) (ty : TypeId) (q q' : IntKind) (a b : Int) : (Builtin.max_ ts ty #[.int q a, .int q' b]).run P w = .ok (.int q (max a b)) w := by
  have : (if b > a then b else a) = max a b := by split <;> omega
  simp [Builtin.max_, Builtin.max2, this]

theorem minmax_sound {P : Program} {G : Ghost} {w : World} {least : Bool} {xs : List AV} {vs : List Value} {k : AV → Prop} (ts : Array TypeId) (ty : TypeId) (h : minmaxAV least xs k) (hc : ConcL G w xs vs) :
    ∃ r y, ((if least then Builtin.min_ ts ty vs.toArray else Builtin.max_ ts ty vs.toArray) : Sem Value).run P w = .ok r w ∧ Conc G w y r ∧ k y := by
  unfold minmaxAV at h
  split at h
  · rename_i q a q' b
    obtain ⟨hl, hc⟩ := hc
    match vs, hl, hc with
    | [u, v], _, hc =>
      have h1 := hc 0 _ u rfl rfl
      have h2 := hc 1 _ v rfl rfl
      cases h1; cases h2
      cases least
      · exact ⟨_, _, max_run ts ty q q' a b, .v _ rfl, h⟩
      · exact ⟨_, _, min_run ts ty q q' a b, .v _ rfl, h⟩
  · exact h.elim

theorem builtin_sound {P : Program} {G : Ghost} {objs : List Obj} {w : World} {b : Builtin} {ts : Array TypeId} {xs : List AV} {vs : List Value} {k : AV → List Obj → Prop} (ty : TypeId) (consts : Array Bool)
    (h : builtinAV P b ts.toList xs objs k) (hm : Mem G objs w) (hc : ConcL G w xs vs) :
    ∃ x : Sem Value, builtin b ts ty consts vs.toArray = (do pure (.value (← x))) ∧ ∃ r y objs' G' w', x.run P w = .ok r w' ∧ Step G w G' w' ∧ Mem G' objs' w' ∧ Conc G' w' y r ∧ k y objs' := by
  obtain ⟨ts⟩ := ts
  simp only at h
  cases b <;> simp only [builtinAV] at h <;> try exact h.elim
  case append =>
    split at h
    · rename_i t xt s x
      obtain ⟨hl, hc⟩ := hc
      match vs, hl, hc with
      | [u, v], _, hc => exact ⟨_, rfl, append_sound h hm (hc 0 _ u rfl rfl) (hc 1 _ v rfl rfl) ty⟩
    · exact h.elim
  case len =>
    split at h
    · rename_i t x
      obtain ⟨hl, hc⟩ := hc
      match vs, hl, hc with
      | [u], _, hc =>
        obtain ⟨r, y, h1, h2, h3⟩ := len_sound (P := P) #[t] ty h (hc 0 _ u rfl rfl) rfl
        exact ⟨_, rfl, r, y, objs, G, w, h1, Step.refl G w, hm, h2, h3⟩
    · exact h.elim
  case max =>
    obtain ⟨r, y, h1, h2, h3⟩ := minmax_sound (P := P) ts.toArray ty h hc
    exact ⟨_, rfl, r, y, objs, G, w, h1, Step.refl G w, hm, h2, h3⟩
  case min =>
    obtain ⟨r, y, h1, h2, h3⟩ := minmax_sound (P := P) ts.toArray ty h hc
    exact ⟨_, rfl, r, y, objs, G, w, h1, Step.refl G w, hm, h2, h3⟩

theorem store_sound {P : Program} {G : Ghost} {objs : List Obj} {w : World} {t : TypeId} {x y : AV} {u v : Value} {k : List Obj → Prop} (h : storeAV P objs t x y k) (hm : Mem G objs w) (hx : Conc G w x u) (hy : Conc G w y v) :
    ∃ objs' w', (Instr.storeAt t u v).run P w = .ok () w' ∧ Step G w G w' ∧ Mem G objs' w' ∧ k objs' := by
  unfold storeAV at h
  split at h
  · rename_i i o off xs hi hcx
    split at h
    · rename_i cells hob
      obtain ⟨h1, h2, hk⟩ := h
      cases hx with
      | ptr _ _ b hb =>
        obtain ⟨us, e1, e2, e3, e4⟩ := cells_conc hy hcx
        obtain ⟨w', k1, k2, k3⟩ := store_step (P := P) hm hob hb ⟨e2, e4⟩ e3 h2
        refine ⟨_, w', ?_, k2, k3, hk⟩
        have hsz : ¬ (us.length ≠ i.size) := by omega
        simp [Instr.storeAt, Instr.sureAddr, storeVar, e1, ti_size hi, e2, h1, k1]
    · exact h.elim
  · exact h.elim

theorem call_run {P : Program} {w : World} {f : Nat} {vs : Array Value} (h : enters P f = true) : (callFunc f vs).run P w = .ok (.enter f vs) w := by
  unfold enters at h
  split at h
  · rename_i fn hf
    simp only [Bool.and_eq_true, Bool.not_eq_true', Option.isSome_iff_exists] at h
    obtain ⟨h1, b, h2⟩ := h
    have h3 : ¬ fn.name = "runtime.NumGoroutine" := by simpa using h1
    simp [callFunc, run_program, hf, h3, h2]
  · cases h

theorem conc_v {G : Ghost} {w : World} {x u : Value} (h : Conc G w (.v x) u) : u = x := by cases h; rfl

theorem conc_fn {G : Ghost} {w : World} {f : Nat} {first cap : List AV} {u : Value} (h : Conc G w (.fn f first cap) u) :
    ∃ vf vc : List Value, u = .func (.func f) vf.toArray vc.toArray ∧ ConcL G w first vf ∧ ConcL G w cap vc := by
  cases h with
  | fn _ _ _ vf vc h1 h2 h3 h4 => exact ⟨vf, vc, rfl, ⟨h1, h3⟩, ⟨h2, h4⟩⟩

theorem ConcL.append {G : Ghost} {w : World} {xs ys : List AV} {us vs : List Value} (h : ConcL G w xs us) (k : ConcL G w ys vs) : ConcL G w (xs ++ ys) (us ++ vs) := by
  refine ⟨by simp [h.1, k.1], fun i x v hx hv => ?_⟩
  rcases Nat.lt_or_ge i xs.length with hl | hl
  · rw [List.getElem?_append_left hl] at hx
    rw [List.getElem?_append_left (by rw [h.1]; exact hl)] at hv
    exact h.2 i x v hx hv
  · rw [List.getElem?_append_right hl] at hx
    rw [List.getElem?_append_right (by rw [h.1]; exact hl), h.1] at hv
    exact k.2 _ x v hx hv

theorem nilCheck_sound {G : Ghost} {w : World} {x : AV} {u : Value} {k : AV → Prop} (h : nilCheckAV x k) (hx : Conc G w x u) :
    k x ∧ ((∃ a, u = .pointer (some a)) ∨ ∃ f p q, u = .func (.func f) p q) := by
  cases hx <;> first
    | exact h.elim
    | exact ⟨h, .inl ⟨_, rfl⟩⟩
    | exact ⟨h, .inr ⟨_, _, _, rfl⟩⟩

theorem boolUn_sound {G : Ghost} {w : World} {x : AV} {u : Value} {g b : Bool} (h : x.boolUn = some (g, b)) (hc : Conc G w x u) (hg : g = true) : u = .bool b := by
  unfold AV.boolUn at h
  split at h
  · cases h; exact conc_v hc
  · cases h
    cases hc with
    | cnd _ _ _ hh _ => exact conc_v (hh hg)
  · cases h

theorem pick_sound {G : Ghost} {w : World} {c x y : AV} {u v z : Value} {k : AV → Prop} (h : pickAV c x y k) (hc : Conc G w c u) (hx : Conc G w x v) (hy : Conc G w y z) :
    ∃ t r, u = .bool t ∧ Value.bool r = (if t then v else z) ∧ k (.v (.bool r)) := by
  unfold pickAV at h
  split at h
  · rename_i t g p h' q e1 e2
    obtain ⟨h1, h2, hk⟩ := h
    refine ⟨t, _, conc_v hc, ?_, hk⟩
    cases t
    · simp only [Bool.false_eq_true, if_false]; exact (boolUn_sound e2 hy (h2 rfl)).symm
    · simp only [if_true]; exact (boolUn_sound e1 hx (h1 rfl)).symm
  · rename_i t g p e1 e2
    obtain ⟨rfl, h2, hk⟩ := h
    exact ⟨true, _, conc_v hc, by simp only [if_true]; exact (boolUn_sound e1 hx h2).symm, hk⟩
  · rename_i t h' q e1 e2
    obtain ⟨rfl, h2, hk⟩ := h
    exact ⟨false, _, conc_v hc, by simp only [Bool.false_eq_true, if_false]; exact (boolUn_sound e2 hy h2).symm, hk⟩
  · exact h.elim

theorem aop_sound {P : Program} {o : Oper} {G : Ghost} {s : AS} {a : Act} {w : World} {K : AS → Prop} {E : AV → List Obj → Prop} {Q : Exit → Act → World → Prop}
    (h : aop P o s K E) (hs : Sat G s a w) (hE : ∀ x objs' G' v w', E x objs' → Mem G' objs' w' → Step G w G' w' → Conc G' w' x v → Q (.panic [{ v, recovered := false }]) a w') :
    o.wp P a w (NextOk K G w) Q := by
  unfold aop at h
  split at h
  · rename_i x ho
    refine op_value (x := pure (a.eval x)) (by simp [execOp, ho]) rfl ⟨_, G, h, hs.put0 o.dst (hs.eval x), Step.refl G w⟩
  · rename_i x ho
    refine op_value (x := pure (a.eval x)) (by simp [execOp, ho]) rfl ⟨_, G, h, hs.put0 o.dst (hs.eval x), Step.refl G w⟩
  · rename_i c x y ho
    obtain ⟨t, r, hcv, hr, hk⟩ := pick_sound h (hs.eval c) (hs.raw x) (hs.raw y)
    refine op_value (x := pure (if t then a.eval x else a.eval y)) ?_ rfl ⟨_, G, hk, ?_, Step.refl G w⟩
    · cases t <;> simp [execOp, ho, hcv, asBool]
    · refine hs.put0 o.dst ?_
      rw [← hr]
      exact .v _ rfl
  · rename_i x ho
    obtain ⟨hk, hsh⟩ := nilCheck_sound h (hs.eval x)
    refine op_value (x := pure (a.eval x)) ?_ rfl ⟨_, G, hk, hs.put0 o.dst (hs.eval x), Step.refl G w⟩
    rcases hsh with ⟨ad, hu⟩ | ⟨f, p, q, hu⟩
    · simp [execOp, ho, hu]
    · simp [execOp, ho, hu]
  · rename_i e ho
    split at h
    · rename_i i hi
      obtain ⟨z, hz, hzc⟩ := ti_zero hi w
      obtain ⟨z1, z2⟩ := zero_conc (G := G) (w := w) hi
      obtain ⟨G', s1, s2, s3⟩ := box_step hs.mem z1 z2 e
      refine op_value (x := Instr.alloc e true (.tuple #[])) (by simp [execOp, ho]) ?_ ⟨_, G', h, hs.put s1.ext s2 o.dst s3, s1⟩
      simp [Instr.alloc, hz, newVar, newRow, hzc]
    · exact h.elim
  · rename_i e x ho
    split at h
    · rename_i i cs hi hcs
      obtain ⟨vs, e1, e2, e3, e4⟩ := cells_conc (hs.eval x) hcs
      obtain ⟨G', s1, s2, s3⟩ := box_step hs.mem ⟨e2, e4⟩ e3 e
      refine op_value (x := Instr.box e (a.eval x)) (by simp [execOp, ho]) ?_ ⟨_, G', h, hs.put s1.ext s2 o.dst s3, s1⟩
      simp [Instr.box, newVar, newRow, e1]
    · exact h.elim
  · rename_i t parts ho
    have := build_sound (P := P) h (vparts := parts.toList.map fun p => (p.1, a.eval p.2)) (by simp) (evalParts hs parts.toList)
    rw [← List.map_toArray, Array.toArray_toList] at this
    exact case_value hs (by simp [execOp, ho]) this
  · rename_i t len parts ho
    obtain ⟨r, y, G', w', h1, h2, h3, h4, h5⟩ := buildSlice_sound (P := P) h hs.mem (vparts := parts.toList.map fun p => (p.1, a.eval p.2)) (by simp) (evalParts hs parts.toList)
    rw [← List.map_toArray, Array.toArray_toList] at h1
    exact op_value (by simp only [execOp, ho]) h1 ⟨_, G', h5, hs.put h2.ext h3 o.dst h4, h2⟩
  · rename_i t x ho
    exact case_value hs (by simp only [execOp, ho]) (load_sound (P := P) h hs.mem (hs.eval x))
  · rename_i t x y ho
    obtain ⟨objs', w', h1, h2, h3, h4⟩ := store_sound (P := P) h hs.mem (hs.eval x) (hs.eval y)
    unfold Oper.wp
    simp only [execOp, ho, Sem.run_bind, h1, Result.andThen_ok, Sem.run_pure]
    exact ⟨_, G, h4, hs.put h2.ext h3 o.dst (.any _), h2⟩
  · rename_i op t x y ty ho
    exact case_value hs (by simp only [execOp, ho]) (bin_sound (P := P) x y h (hs.eval x) (hs.eval y))
  · rename_i op t x ho
    exact case_value hs (by simp only [execOp, ho]) (un_sound (P := P) h (hs.eval x))
  · rename_i src dst x ho
    exact case_value hs (by simp only [execOp, ho]) (conv_sound (P := P) h (hs.eval x))
  · rename_i fn first cap ho
    split at h
    · rename_i f
      have e1 := evalList hs first.toList
      have e2 := evalList hs cap.toList
      refine case_value (x := Instr.makeFunc (.func f) (first.map a.eval) (cap.map a.eval)) hs (by simp only [execOp, ho]) ⟨_, _, rfl, ?_, h⟩
      have := Conc.fn (G := G) (w := w) f _ _ _ _ e1.1 e2.1 e1.2 e2.2
      rwa [← List.map_toArray, ← List.map_toArray, Array.toArray_toList, Array.toArray_toList] at this
    · exact h.elim
  · rename_i t l c ho
    exact case_mem hs (by simp only [execOp, ho]) (makeSlice_sound (P := P) h hs.mem (hs.eval l) (hs.eval c))
  · rename_i t x lo hi mx ho
    exact case_value hs (by simp only [execOp, ho]) (slice_sound (P := P) h (hs.eval x) (evalO hs lo) (evalO hs hi) (evalO hs mx))
  · rename_i t x f ho
    exact case_value hs (by simp only [execOp, ho]) (fieldAddr_sound (P := P) h (hs.eval x))
  · rename_i t x f ho
    exact case_value hs (by simp only [execOp, ho]) (field_sound (P := P) h (hs.eval x))
  · rename_i t x i ho
    exact case_value hs (by simp only [execOp, ho]) (indexAddr_sound (P := P) h (hs.eval x) (hs.eval i))
  · rename_i t x i ho
    exact case_value hs (by simp only [execOp, ho]) (index_sound (P := P) h (hs.eval x) (hs.eval i))
  · rename_i t r ho
    split at h
    · obtain ⟨G', s1, s2, s3⟩ := makeMap_step hs.mem
      exact op_value (x := Instr.makeMap t none) (by simp [execOp, ho]) (by simp [Instr.makeMap]) ⟨_, G', h, hs.put s1.ext s2 o.dst s3, s1⟩
    · exact h.elim
  · rename_i t m k ok ho
    exact case_value hs (by simp only [execOp, ho]) (lookup_sound (P := P) h hs.mem (hs.eval m) (hs.eval k))
  · rename_i t m k x ho
    obtain ⟨objs', w', h1, h2, h3, h4⟩ := mapUpdate_sound (P := P) h hs.mem (hs.eval m) (hs.eval k) (hs.eval x)
    unfold Oper.wp
    simp only [execOp, ho, Sem.run_bind, h1, Result.andThen_ok, Sem.run_pure]
    exact ⟨_, G, h4, hs.put h2.ext h3 o.dst (.any _), h2⟩
  · rename_i x i ho
    exact case_value hs (by simp only [execOp, ho]) (extract_sound (P := P) h (hs.eval x))
  · rename_i c ho
    split at h
    · rename_i b hb
      obtain ⟨x, hx, hrest⟩ := builtin_sound (P := P) o.type (c.args.map fun | .const _ => true | _ => false) h hs.mem (evalList hs c.args.toList)
      rw [← List.map_toArray, Array.toArray_toList] at hx
      refine case_mem (x := x) hs ?_ hrest
      simp only [execOp, ho, resolve, hb]
      exact hx
    · rename_i f hf
      split at h
      · rename_i g first cap hfe
        obtain ⟨hen, hcall⟩ := h
        have hfc := hs.eval f
        rw [hfe] at hfc
        obtain ⟨vf, vc, hfv, h1, h2⟩ := conc_fn hfc
        have hargs := evalList hs c.args.toList
        have hall := ConcL.append (ConcL.append h1 hargs) h2
        have := hcall G w _ hs.mem hall
        have hrun : (execOp a.eval o).run P w = .ok (.enter g ((vf ++ c.args.toList.map a.eval ++ vc).toArray)) w := by
          simp only [execOp, ho, resolve, hf, hfv, Deferred.ofValue, Sem.run_bind, Sem.run_pure, Result.andThen_ok, invoke]
          rw [call_run hen]
          congr 2
          apply Array.ext'
          simp
        unfold Oper.wp
        rw [hrun, Oper.upon_enter]
        refine this.mono ?_
        rintro e w' ⟨ae, objs', G', hk, hm', hst, hend⟩
        cases ae with
        | ret x =>
          cases e with
          | returned v => exact ⟨_, G', hk, hs.put hst.ext hm' o.dst hend, hst⟩
          | panicked chain => exact hend.elim
          | outgrown => exact hend.elim
        | pan x =>
          cases e with
          | returned v => exact hend.elim
          | panicked chain =>
            obtain ⟨v, rfl, hc⟩ := hend
            exact hE x objs' G' v w' hk hm' hst hc
          | outgrown => exact hend.elim
      · exact h.elim
    · exact h.elim
  · exact h.elim

end Go.Proofs.Ytickejlolpoboaa.AM
