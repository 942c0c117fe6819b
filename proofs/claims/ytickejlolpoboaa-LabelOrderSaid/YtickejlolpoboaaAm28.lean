/- Slots, told by what was laid last: a lookup goes back as far as it must. -/
import Derived.Test.YtickejlolpoboaaAm27
set_option linter.all false
namespace Go.Proofs.Ytickejlolpoboaa.AM
open Go

def oc (d : Nat) (x : AV) (r : List (Nat × AV)) : List (Nat × AV) := (d, x) :: r
def onil : List (Nat × AV) := []
def og : List (Nat × AV) → Nat → AV
  | [], _ => .any
  | (d, x) :: r, t => if d = t then x else og r t
def ov (n : Nat) : List (Nat × AV) → List AV
  | [] => List.replicate n .any
  | (d, x) :: r => (ov n r).set d x

theorem ov_length (n : Nat) : ∀ o, (ov n o).length = n
  | [] => by simp [ov]
  | (d, x) :: r => by simp [ov, ov_length n r]
theorem ov_get (n : Nat) : ∀ (o : List (Nat × AV)) (t : Nat), t < n → (ov n o)[t]? = some (og o t)
  | [], t, h => by simp [ov, og, h]
  | (d, x) :: r, t, h => by
    simp only [ov, og, List.getElem?_set]
    by_cases e : d = t
    · subst e; simp [ov_length, h]
    · simp [e, ov_get n r t h]
theorem ov_getD (n : Nat) (o : List (Nat × AV)) (t : Nat) : (ov n o).getD t .any = if t < n then og o t else .any := by
  rw [List.getD_eq_getElem?_getD]
  split
  · rename_i h; rw [ov_get n o t h]; rfl
  · rename_i h; rw [List.getElem?_eq_none (by rw [ov_length]; omega)]; rfl
theorem og_oc (d : Nat) (x : AV) (r : List (Nat × AV)) (t : Nat) : og (oc d x r) t = if d = t then x else og r t := rfl
theorem og_onil (t : Nat) : og onil t = .any := rfl
@[congr] theorem oc_cg {d : Nat} {x x' : AV} {r : List (Nat × AV)} (h : x = x') : oc d x r = oc d x' r := by rw [h]
@[congr] theorem og_cg (o : List (Nat × AV)) (t : Nat) : og o t = og o t := rfl

theorem eval_ov (n : Nat) (o : List (Nat × AV)) (objs : List Obj) (t : Nat) : AS.eval ⟨ov n o, objs⟩ (.tmp t) = (if t < n then og o t else .any).un := by
  simp only [AS.eval, ov_getD]
theorem raw_ov (n : Nat) (o : List (Nat × AV)) (objs : List Obj) (t : Nat) : AS.raw ⟨ov n o, objs⟩ (.tmp t) = if t < n then og o t else .any := by
  simp only [AS.raw, ov_getD]
theorem eval_const (s : AS) (v : Value) : AS.eval s (.const v) = AV.ofValue v := rfl
theorem eval_func (s : AS) (f : Nat) : AS.eval s (.func f) = .fn f [] [] := rfl
theorem raw_const (s : AS) (v : Value) : AS.raw s (.const v) = AV.ofValue v := rfl
theorem raw_func (s : AS) (f : Nat) : AS.raw s (.func f) = .fn f [] [] := rfl
theorem put_ov (n : Nat) (o : List (Nat × AV)) (objs : List Obj) (d : Nat) (x : AV) : AS.put ⟨ov n o, objs⟩ (some d) x = ⟨ov n (oc d x o), objs⟩ := rfl
theorem put_none (s : AS) (x : AV) : AS.put s none x = s := rfl
theorem gslot_ov (n : Nat) (o : List (Nat × AV)) (objs : List Obj) (d : Nat) (want : Bool) : gslot (some d) ⟨ov n o, objs⟩ want = (match (if d < n then og o d else .any).boolUn with | some (g, b) => some (g && (b == want)) | none => none) := by
  rw [← ov_getD]; rfl
@[congr] theorem eval_cg {s : AS} {x x' : Operand} (h : x = x') : AS.eval s x = AS.eval s x' := by rw [h]
@[congr] theorem raw_cg {s : AS} {x x' : Operand} (h : x = x') : AS.raw s x = AS.raw s x' := by rw [h]
@[congr] theorem put_cg {s : AS} {d d' : Option Nat} {x x' : AV} (hd : d = d') (hx : x = x') : AS.put s d x = AS.put s d' x' := by rw [hd, hx]
@[congr] theorem gslot_cg {d d' : Option Nat} {s : AS} {want : Bool} (hd : d = d') : gslot d s want = gslot d' s want := by rw [hd]

def argsO : Nat → List AV → List (Nat × AV)
  | _, [] => onil
  | i, a :: as => oc i a (argsO (i + 1) as)
theorem og_args : ∀ (as : List AV) (i t : Nat), og (argsO i as) (i + t) = as.getD t .any
  | [], i, t => by simp [argsO, og_onil]
  | a :: as, i, 0 => by simp [argsO, og_oc]
  | a :: as, i, t + 1 => by
    have := og_args as (i + 1) t
    rw [show i + 1 + t = i + (t + 1) from by omega] at this
    simp only [argsO, og_oc]
    rw [if_neg (by omega), this]; simp
theorem args_ov (args : List AV) (n : Nat) (h : args.length ≤ n) : args ++ List.replicate (n - args.length) .any = ov n (argsO 0 args) := by
  apply List.ext_getElem?
  intro t
  rcases Nat.lt_or_ge t n with ht | ht
  · rw [ov_get n _ t ht]
    have := og_args args 0 t
    rw [Nat.zero_add] at this
    rw [this]
    rcases Nat.lt_or_ge t args.length with h1 | h1
    · rw [List.getElem?_append_left h1, List.getD_eq_getElem?_getD, List.getElem?_eq_getElem h1]; rfl
    · rw [List.getElem?_append_right h1, List.getElem?_replicate, if_pos (by omega), List.getD_eq_getElem?_getD, List.getElem?_eq_none h1]; rfl
  · rw [List.getElem?_eq_none (by simp; omega), List.getElem?_eq_none (by rw [ov_length]; omega)]

theorem Fun.of_awpO {P : Program} {f : Nat} {fn : Func} {c : Code} {args : List AV} {x : AV} {o0 : List Obj} (hf : P.funcs[f]? = some fn) (hb : fn.body = some c) (hl : args.length ≤ fn.ntmps)
    (h : awp P 0 c ⟨ov fn.ntmps (argsO 0 args), []⟩ (bodyQ P 0 fn.results.toList (fun ae o => ae = .ret x ∧ o = o0)) (fun _ _ => False)) : Fun P f args x o0 :=
  Fun.of_awp hf hb (by rw [args_ov args fn.ntmps hl]; exact h)

/-! ### What may be forgotten -/

def leO (o : List (Nat × AV)) : List (Nat × AV) → Prop
  | [] => True
  | (d, x) :: r => (og o d).le x ∧ leO o r
theorem leO_onil (o : List (Nat × AV)) : leO o onil = True := rfl
theorem leO_oc (o : List (Nat × AV)) (d : Nat) (x : AV) (r : List (Nat × AV)) : leO o (oc d x r) = ((og o d).le x ∧ leO o r) := rfl
@[congr] theorem leO_cg {o : List (Nat × AV)} {r r' : List (Nat × AV)} (h : r = r') : leO o r = leO o r' := by rw [h]

theorem leO_get {o : List (Nat × AV)} : ∀ {r : List (Nat × AV)}, leO o r → ∀ t, (og o t).le (og r t)
  | [], _, t => AV.le_any _
  | (d, x) :: r, h, t => by
    simp only [og]
    split
    · rename_i e; subst e; exact h.1
    · exact leO_get h.2 t
theorem leL_of_get : ∀ {xs ys : List AV}, xs.length = ys.length → (∀ (i : Nat) (x y : AV), xs[i]? = some x → ys[i]? = some y → x.le y) → AV.leL xs ys
  | [], [], _, _ => trivial
  | x :: xs, y :: ys, hl, h => ⟨h 0 x y rfl rfl, leL_of_get (by simpa using hl) fun i x y hx hy => h (i + 1) x y (by simpa using hx) (by simpa using hy)⟩
  | [], _ :: _, hl, _ => by simp at hl
  | _ :: _, [], hl, _ => by simp at hl
theorem leO_leL {n : Nat} {o r : List (Nat × AV)} (h : leO o r) : AV.leL (ov n o) (ov n r) := by
  refine leL_of_get (by rw [ov_length, ov_length]) fun i x y hx hy => ?_
  have hi : i < n := by have := (List.getElem?_eq_some_iff.1 hx).1; rwa [ov_length] at this
  rw [ov_get n _ i hi] at hx hy
  cases hx; cases hy
  exact leO_get h i

def idsO (k : Nat) : List (Nat × AV) → Bool
  | [] => true
  | (_, x) :: r => x.idsLt k && idsO k r
theorem idsLtL_of {k : Nat} : ∀ {xs : List AV}, (∀ (i : Nat) (x : AV), xs[i]? = some x → x.idsLt k = true) → AV.idsLtL k xs = true
  | [], _ => rfl
  | x :: xs, h => by simp only [AV.idsLtL, Bool.and_eq_true]; exact ⟨h 0 x rfl, idsLtL_of fun i x hx => h (i + 1) x (by simpa using hx)⟩
theorem idsO_get {k : Nat} : ∀ {o : List (Nat × AV)}, idsO k o = true → ∀ t, (og o t).idsLt k = true
  | [], _, t => rfl
  | (d, x) :: r, h, t => by
    simp only [idsO, Bool.and_eq_true] at h
    simp only [og]
    split
    · exact h.1
    · exact idsO_get h.2 t
theorem idsO_L {n k : Nat} {o : List (Nat × AV)} (h : idsO k o = true) : AV.idsLtL k (ov n o) = true := by
  refine idsLtL_of fun i x hx => ?_
  have hi : i < n := by have := (List.getElem?_eq_some_iff.1 hx).1; rwa [ov_length] at this
  rw [ov_get n _ i hi] at hx
  cases hx
  exact idsO_get h i

theorem Weak.ov {n0 n : Nat} {o o' : List (Nat × AV)} {objs objs' : List Obj} (extra : List Obj) (h : leO o o') (ho : objs = objs' ++ extra) (hn : n0 ≤ objs'.length) (h1 : idsO objs'.length o' = true) (h2 : belowObjs objs'.length objs' = true) :
    Weak n0 ⟨AM.ov n o, objs⟩ ⟨AM.ov n o', objs'⟩ := Weak.to extra (leO_leL h) ho hn (idsO_L h1) h2

def ofil (kp : Nat → Bool) : List (Nat × AV) → List (Nat × AV)
  | [] => onil
  | (d, x) :: r => bif kp d then ofil kp r else oc d x (ofil kp r)
theorem og_ofil (kp : Nat → Bool) : ∀ (o : List (Nat × AV)) (t : Nat), og (ofil kp o) t = if kp t = true then .any else og o t
  | [], t => by simp [ofil, onil, og]
  | (d, x) :: r, t => by
    have ih := og_ofil kp r t
    simp only [ofil]
    cases hk : kp d
    · simp only [cond_false, og_oc, og, ih]
      by_cases hd : d = t
      · subst hd; simp [hk]
      · simp [hd]
    · simp only [cond_true, og, ih]
      by_cases hd : d = t
      · subst hd; simp [hk]
      · simp [hd]
theorem idsO_one {n k i : Nat} {o : List (Nat × AV)} (h : idsO k (ofil (fun d => decide (d = i)) o) = true) : AV.idsLtL k (AM.ov n (oc i .any o)) = true := by
  refine idsLtL_of fun j x hx => ?_
  have hj : j < n := by have := (List.getElem?_eq_some_iff.1 hx).1; rwa [ov_length] at this
  rw [ov_get n _ j hj] at hx
  cases hx
  rw [og_oc]
  split
  · rfl
  · rename_i hne
    have := idsO_get h j
    rw [og_ofil, if_neg (by simpa using fun e => hne e.symm)] at this
    exact this

theorem Weak.tokO {n0 n : Nat} {o : List (Nat × AV)} {objs : List Obj} (i sz e : Nat) (ex : Bool) (hi : i < n) (h : og o i = .v (.slice none 0 0)) :
    Weak n0 ⟨AM.ov n o, objs⟩ ⟨AM.ov n (oc i (.sl [] (.own objs.length)) o), objs ++ [.tok 0 sz e ex]⟩ :=
  Weak.tok (s := ⟨AM.ov n o, objs⟩) i sz e ex (by rw [ov_get n o i hi, h])

theorem Weak.unboxO {n0 n : Nat} {o : List (Nat × AV)} {objs : List Obj} (i : Nat) {rows : List (List D)} {m sz e : Nat} (hi : i < n) (h : og o i = .sl rows (.own objs.length)) (hn : rows.length = m)
    (hn0 : n0 ≤ objs.length) (h1 : idsO objs.length (ofil (fun d => decide (d = i)) o) = true) (h2 : belowObjs objs.length objs = true) :
    Weak n0 ⟨AM.ov n o, objs ++ [.tok m sz e true]⟩ ⟨AM.ov n (oc i (.bsl objs.length 0 m) o), objs ++ [.box (rowCells rows)]⟩ :=
  Weak.unbox (tmps := AM.ov n o) i (by rw [ov_get n o i hi, h]) hn hn0 (idsO_one (n := n) h1) h2

theorem Weak.pubboxO {n0 n : Nat} {o : List (Nat × AV)} {objs : List Obj} (i : Nat) {rows : List (List D)} {m sz : Nat} (hi : i < n) (h : og o i = .bsl objs.length 0 m) (hn : rows.length = m)
    (hsz : ∀ r ∈ rows, r.length = sz) (hn0 : n0 ≤ objs.length) (h1 : idsO objs.length (ofil (fun d => decide (d = i)) o) = true) (h2 : belowObjs objs.length objs = true) :
    Weak n0 ⟨AM.ov n o, objs ++ [.box (rowCells rows)]⟩ ⟨AM.ov n (oc i (.sl rows .none) o), objs⟩ :=
  Weak.pubbox (tmps := AM.ov n o) i (by rw [ov_get n o i hi, h]) hn hsz hn0 (idsO_one (n := n) h1) h2

theorem Weak.leO {n0 n : Nat} {o o' : List (Nat × AV)} {objs : List Obj} (h : AM.leO o o') : Weak n0 ⟨AM.ov n o, objs⟩ ⟨AM.ov n o', objs⟩ := Weak.le (s := ⟨AM.ov n o, objs⟩) (leO_leL h)

/-! ### Loops -/

def ol : List (Nat × AV) → List (Nat × AV) → List (Nat × AV)
  | [], r => r
  | (d, x) :: l, r => oc d x (ol l r)
theorem ofil_oc (kp : Nat → Bool) (d : Nat) (x : AV) (r : List (Nat × AV)) : ofil kp (oc d x r) = bif kp d then ofil kp r else oc d x (ofil kp r) := rfl
theorem ofil_onil (kp : Nat → Bool) : ofil kp onil = onil := rfl

def osel : List Nat → List (Nat × AV) → List (Nat × AV)
  | [], _ => onil
  | d :: ds, o => oc d (og o d) (osel ds o)
@[congr] theorem awp_cg {P : Program} {n0 : Nat} {c : Code} {s s' : AS} {Q : AX → AS → Prop} {E : AV → List Obj → Prop} (h : s = s') : awp P n0 c s Q E = awp P n0 c s' Q E := by rw [h]

theorem awp_loopO {P : Program} {n0 n : Nat} {Q : AX → AS → Prop} {E : AV → List Obj → Prop} {X : Type} {o k : List (Nat × AV)} {objs : List Obj} (kp : List Nat) (hk : osel kp o = k) (vals : X → List (Nat × AV)) (ob : X → List Obj) (inv : X → Prop) (μ : X → Nat) (x0 : X) {c : Code} (h0 : inv x0)
    (hw : Weak n0 ⟨ov n o, objs⟩ ⟨ov n (ol (vals x0) k), ob x0⟩)
    (hr : ∀ x, inv x → awp P n0 c ⟨ov n (ol (vals x) k), ob x⟩ (loopQ n0 (IX (fun x => ⟨ov n (ol (vals x) k), ob x⟩) inv μ) (μ x) Q) E) : awp P n0 (.loop c) ⟨ov n o, objs⟩ Q E :=
  awp_loop (fun x => ⟨ov n (ol (vals x) k), ob x⟩) inv μ x0 h0 hw hr

theorem awp_loopOW {P : Program} {n0 n : Nat} {Q : AX → AS → Prop} {E : AV → List Obj → Prop} {X : Type} {o o1 k : List (Nat × AV)} {objs objs1 : List Obj} (kp : List Nat) (vals : X → List (Nat × AV)) (ob : X → List Obj) (inv : X → Prop) (μ : X → Nat) (x0 : X) {c : Code} (h0 : inv x0)
    (hw1 : Weak n0 ⟨ov n o, objs⟩ ⟨ov n o1, objs1⟩) (hk : osel kp o1 = k)
    (hw : Weak n0 ⟨ov n o1, objs1⟩ ⟨ov n (ol (vals x0) k), ob x0⟩)
    (hr : ∀ x, inv x → awp P n0 c ⟨ov n (ol (vals x) k), ob x⟩ (loopQ n0 (IX (fun x => ⟨ov n (ol (vals x) k), ob x⟩) inv μ) (μ x) Q) E) : awp P n0 (.loop c) ⟨ov n o, objs⟩ Q E :=
  awp_loop (fun x => ⟨ov n (ol (vals x) k), ob x⟩) inv μ x0 h0 (hw1.trans hw) hr

/-! ### Regions whose order is drawn, with calls -/

theorem keepL_ov (n : Nat) (L : List Nat) (o : List (Nat × AV)) : keepL (ov n o) 0 L = ov n (o.filter fun e => L.contains e.1) := by
  apply List.ext_getElem?
  intro t
  rw [keepL_get]
  rcases Nat.lt_or_ge t n with h | h
  · rw [ov_get n _ t h, ov_get n _ t h]
    simp only [Option.map_some, Nat.zero_add, Option.some.injEq]
    induction o with
    | nil => simp [og]
    | cons e r ih =>
      obtain ⟨d, x⟩ := e
      simp only [og, List.filter_cons]
      by_cases hd : d = t
      · subst hd
        cases hc : L.contains d
        · simp only [if_true, cond_false, Bool.false_eq_true, if_false]
          have ih' := ih
          rw [hc] at ih'
          simpa using ih'
        · simp [og]
      · rw [if_neg hd]
        cases hc : L.contains d
        · simpa using ih
        · simp only [if_true, og, if_neg hd]; exact ih
  · rw [List.getElem?_eq_none (by rw [ov_length]; omega), List.getElem?_eq_none (by rw [ov_length]; omega)]; rfl
def okeep (L : List Nat) : List (Nat × AV) → List (Nat × AV)
  | [] => onil
  | (d, x) :: r => bif L.contains d then oc d x (okeep L r) else okeep L r
theorem okeep_eq (L : List Nat) : ∀ o : List (Nat × AV), okeep L o = o.filter fun e => L.contains e.1
  | [] => rfl
  | (d, x) :: r => by
    simp only [okeep, List.filter_cons, okeep_eq L r]
    cases L.contains d <;> rfl
theorem keep_ov (n : Nat) (o : List (Nat × AV)) (objs : List Obj) (L : List Nat) : AS.keep ⟨ov n o, objs⟩ L = ⟨ov n (okeep L o), objs⟩ := by
  simp only [AS.keep, keepL_ov, okeep_eq]
theorem okeep_oc (L : List Nat) (d : Nat) (x : AV) (r : List (Nat × AV)) : okeep L (oc d x r) = bif L.contains d then oc d x (okeep L r) else okeep L r := rfl
theorem okeep_onil (L : List Nat) : okeep L onil = onil := rfl

attribute [go_sem] og_oc og_onil ov_getD eval_ov raw_ov eval_const eval_func raw_const raw_func put_ov put_none gslot_ov ol

theorem leLn : AV.leL [] [] := trivial
theorem leLc {x y : AV} {xs ys : List AV} (h : x.le y) (k : AV.leL xs ys) : AV.leL (x :: xs) (y :: ys) := ⟨h, k⟩
section
variable {P : Program} {ops : List Oper} {o : Oper} {rest : List Oper} {s : AS} {K : AS → Prop}
theorem aopsQ_step (h : ∀ K' : AS → Prop, (∀ s', aopsQ P ops rest s' K → K' s') → isQ o.op = true ∧ guardAV P ops s o K' (aop P o s K' (fun _ _ => False)) (K' (s.put o.dst .any))) : aopsQ P ops (o :: rest) s K := h _ (fun _ h => h)
theorem aopsQ_nil (h : K s) : aopsQ P ops [] s K := h
theorem kapp3 {K' : AS → Prop} (hK : ∀ s', aopsQ P ops rest s' K → K' s') (h : aopsQ P ops rest s K) : K' s := hK s h
end
end Go.Proofs.Ytickejlolpoboaa.AM
