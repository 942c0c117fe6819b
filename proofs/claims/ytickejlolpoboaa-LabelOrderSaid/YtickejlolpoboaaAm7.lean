/- Composite values, parts of tuples, single operands, conversions, comparison of structs. -/
import Derived.Test.YtickejlolpoboaaAm6
set_option linter.all false
namespace Go.Proofs.Ytickejlolpoboaa.AM
open Go

/-- The cells of a value. -/
def cellsAV : AV → Option (List AV)
  | .agg cs => some cs
  | .any => none
  | .tup _ => none
  | .cnd _ _ => none
  | x => some [x]

theorem cells_conc {G : Ghost} {w : World} {x : AV} {v : Value} {cs : List AV} (h : Conc G w x v) (hc : cellsAV x = some cs) :
    ∃ vs : List Value, v.cells = vs.toArray ∧ vs.length = cs.length ∧ (∀ (i : Nat) (u : Value), vs[i]? = some u → u.oneCell' = true) ∧
      ∀ (i : Nat) (c : AV) (u : Value), cs[i]? = some c → vs[i]? = some u → Conc G w c u := by
  have single : ∀ (y : AV) (u : Value), Conc G w y u → u.oneCell' = true → u.cells = #[u] ∧
      (∀ (i : Nat) (z : Value), [u][i]? = some z → z.oneCell' = true) ∧ ∀ (i : Nat) (c : AV) (z : Value), [y][i]? = some c → [u][i]? = some z → Conc G w c z := by
    intro y u hy ho
    refine ⟨?_, ?_, ?_⟩
    · cases u <;> first | rfl | (simp [Value.oneCell'] at ho)
    · intro i z hz
      cases i with
      | zero => simp at hz; subst hz; exact ho
      | succ n => simp at hz
    · intro i c z h1 h2
      cases i with
      | zero => simp at h1 h2; subst h1; subst h2; exact hy
      | succ n => simp at h1
  cases h with
  | v _ hx => cases hc; obtain ⟨h1, h2, h3⟩ := single _ _ (Conc.v v hx) hx; exact ⟨[v], h1, rfl, h2, h3⟩
  | any => cases hc
  | cnd => cases hc
  | sl rows t _ hd ht => cases hc; obtain ⟨h1, h2, h3⟩ := single _ _ (.sl rows t v hd ht) hd.one; exact ⟨[v], h1, rfl, h2, h3⟩
  | agg cs vs hl h1 h2 => cases hc; exact ⟨vs, rfl, hl, h1, h2⟩
  | tup => cases hc
  | ptr o off b hb => cases hc; obtain ⟨h1, h2, h3⟩ := single _ _ (Conc.ptr o off b hb) rfl; exact ⟨[_], h1, rfl, h2, h3⟩
  | ep rows i off t b st sz hr => cases hc; obtain ⟨h1, h2, h3⟩ := single _ _ (Conc.ep rows i off t b st sz hr) rfl; exact ⟨[_], h1, rfl, h2, h3⟩
  | bsl o off len cap b hb e1 e2 => cases hc; obtain ⟨h1, h2, h3⟩ := single _ _ (Conc.bsl o off len cap b hb e1 e2) rfl; exact ⟨[_], h1, rfl, h2, h3⟩
  | bsl0 o off cap a e2 => cases hc; obtain ⟨h1, h2, h3⟩ := single _ _ (Conc.bsl0 (G := G) (w := w) o off cap a e2) rfl; exact ⟨[_], h1, rfl, h2, h3⟩
  | map o b hb => cases hc; obtain ⟨h1, h2, h3⟩ := single _ _ (Conc.map o b hb) rfl; exact ⟨[_], h1, rfl, h2, h3⟩
  | fn f first cap vf vc e1 e2 e3 e4 => cases hc; obtain ⟨h1, h2, h3⟩ := single _ _ (Conc.fn f first cap vf vc e1 e2 e3 e4) rfl; exact ⟨[_], h1, rfl, h2, h3⟩

/-- xs written over cs from off on. -/
def setFrom : List AV → Nat → List AV → List AV
  | cs, _, [] => cs
  | cs, off, x :: xs => setFrom (cs.set off x) (off + 1) xs

def setFromV : List Value → Nat → List Value → List Value
  | cs, _, [] => cs
  | cs, off, x :: xs => setFromV (cs.set off x) (off + 1) xs

theorem setFrom_length : ∀ (xs cs : List AV) (off : Nat), (setFrom cs off xs).length = cs.length
  | [], _, _ => rfl
  | x :: xs, cs, off => by simp only [setFrom]; rw [setFrom_length]; simp

theorem setFromV_length : ∀ (xs cs : List Value) (off : Nat), (setFromV cs off xs).length = cs.length
  | [], _, _ => rfl
  | x :: xs, cs, off => by simp only [setFromV]; rw [setFromV_length]; simp

def OneL (vs : List Value) : Prop := ∀ (i : Nat) (u : Value), vs[i]? = some u → u.oneCell' = true

theorem OneL.set {vs : List Value} (h : OneL vs) (d : Nat) {v : Value} (hv : v.oneCell' = true) : OneL (vs.set d v) := by
  intro i u hu
  rw [List.getElem?_set] at hu
  split at hu
  · split at hu
    · cases hu; exact hv
    · cases hu
  · exact h i u hu

theorem ConcL.setFrom {G : Ghost} {w : World} : ∀ {xs : List AV} {us : List Value} {cs : List AV} {vs : List Value} (off : Nat), ConcL G w cs vs → OneL vs → ConcL G w xs us → OneL us →
    ConcL G w (setFrom cs off xs) (setFromV vs off us) ∧ OneL (setFromV vs off us)
  | [], us, cs, vs, off, h, h1, hx, _ => by
    have : us = [] := List.eq_nil_of_length_eq_zero (by simpa using hx.1)
    subst this
    exact ⟨h, h1⟩
  | x :: xs, us, cs, vs, off, h, h1, hx, hu => by
    cases us with
    | nil => have := hx.1; simp at this
    | cons u us =>
      have hxu : Conc G w x u := hx.2 0 x u rfl rfl
      have huo : u.oneCell' = true := hu 0 u rfl
      have hrest : ConcL G w xs us := ⟨by have := hx.1; simpa using this, fun i c v hc hv => hx.2 (i + 1) c v (by simpa using hc) (by simpa using hv)⟩
      exact ConcL.setFrom (off + 1) (h.set off hxu) (h1.set off huo) hrest (fun i v hv => hu (i + 1) v (by simpa using hv))

/-- The model's way of filling is setFromV. -/
theorem fill_foldl (off : Nat) : ∀ (us : List Value) (n : Nat) (cs : Array Value),
    ((us.zipIdx n).foldl (fun (cs : Array Value) (x : Value × Nat) => cs.setIfInBounds (off + x.2) x.1) cs).toList = setFromV cs.toList (off + n) us
  | [], _, _ => rfl
  | u :: us, n, cs => by
    simp only [List.zipIdx_cons, List.foldl_cons, setFromV]
    rw [fill_foldl off us (n + 1)]
    simp [Nat.add_assoc]

def fillAV (place : Nat → Option (Nat × Nat)) (cs : List AV) : List (Nat × AV) → Option (List AV)
  | [] => some cs
  | (j, x) :: rest =>
    match place j, cellsAV x with
    | some (off, size), some xs => if xs.length = size ∧ off + size ≤ cs.length then fillAV place (setFrom cs off xs) rest else none
    | _, _ => none

theorem fill_sound {G : Ghost} {w : World} {place : Nat → Option (Nat × Nat)} : ∀ {parts : List (Nat × AV)} {vparts : List (Nat × Value)} {cs : List AV} {vs : List Value} {out : List AV},
    parts.length = vparts.length → (∀ (i : Nat) (p : Nat × AV) (q : Nat × Value), parts[i]? = some p → vparts[i]? = some q → p.1 = q.1 ∧ Conc G w p.2 q.2) →
    ConcL G w cs vs → OneL vs → fillAV place cs parts = some out →
    ∃ res : List Value, Instr.fill place vs.toArray vparts = some res.toArray ∧ ConcL G w out res ∧ OneL res
  | [], vparts, cs, vs, out, hl, _, h, h1, hf => by
    have : vparts = [] := List.eq_nil_of_length_eq_zero (by simpa using hl.symm)
    subst this
    cases hf
    exact ⟨vs, rfl, h, h1⟩
  | (j, x) :: rest, vparts, cs, vs, out, hl, hp, h, h1, hf => by
    cases vparts with
    | nil => simp at hl
    | cons q vrest =>
      obtain ⟨j', u⟩ := q
      obtain ⟨he, hxu⟩ := hp 0 (j, x) (j', u) rfl rfl
      simp only at he hxu
      subst he
      simp only [fillAV] at hf
      cases hpl : place j with
      | none => simp [hpl] at hf
      | some os =>
        obtain ⟨off, size⟩ := os
        cases hcx : cellsAV x with
        | none => simp [hpl, hcx] at hf
        | some xs =>
          simp only [hpl, hcx] at hf
          split at hf
          · rename_i hcond
            obtain ⟨us, hus, hlen, hone, hconc⟩ := cells_conc hxu hcx
            obtain ⟨k1, k2⟩ := ConcL.setFrom off h h1 ⟨hlen, hconc⟩ hone
            obtain ⟨res, hr, hr2, hr3⟩ := fill_sound (place := place) (parts := rest) (vparts := vrest) (by simpa using hl)
              (fun i p q hp' hq' => hp (i + 1) p q (by simpa using hp') (by simpa using hq')) k1 k2 hf
            refine ⟨res, ?_, hr2, hr3⟩
            have hvl := h.1
            simp only [Instr.fill, hpl, hus, List.size_toArray, hlen]
            have e0 := fill_foldl off us 0 vs.toArray
            have e2 : (us.toArray.zipIdx.foldl (fun (cs : Array Value) (x : Value × Nat) => cs.setIfInBounds (off + x.2) x.1) vs.toArray) = (setFromV vs off us).toArray := by
              rw [← Array.foldl_toList]
              apply Array.ext'
              simpa using e0
            have hc1 : decide (xs.length ≠ size) = false := by simp only [decide_eq_false_iff_not]; omega
            have hc2 : decide (off + xs.length > vs.length) = false := by simp only [decide_eq_false_iff_not]; omega
            rw [hc1, hc2, e2, hr]
            rfl
          · cases hf

def placeOf (P : Program) (i : TI) (j : Nat) : Option (Nat × Nat) :=
  match i.desc with
  | .struct fs => (fs[j]?).bind fun (f : Field) => (ti P f.type).map fun x => (f.offset, x.size)
  | .array _ e => (ti P e).map fun x => (j * x.size, x.size)
  | _ => none

def allTi (P : Program) : List Field → Bool
  | [] => true
  | f :: fs => (ti P f.type).isSome && allTi P fs

def buildAV (P : Program) (t : TypeId) (parts : List (Nat × AV)) (k : AV → Prop) : Prop :=
  match ti P t with
  | some i =>
    (match i.desc with | .struct fs => allTi P fs.toList = true | .array _ e => (ti P e).isSome = true | _ => False) ∧
    (match fillAV (placeOf P i) (i.zero.map .v) parts with
    | some cs => k (.agg cs)
    | none => False)
  | none => False

theorem zero_conc {G : Ghost} {w : World} {P : Program} {t : TypeId} {i : TI} (h : ti P t = some i) : ConcL G w (i.zero.map .v) i.zero ∧ OneL i.zero := by
  obtain ⟨_, f, z, _, _, _, _, _, _, ho⟩ := ti_spec h
  refine ⟨⟨by simp, fun j x v hx hv => ?_⟩, fun j u hu => ho u (List.mem_of_getElem? hu)⟩
  rw [List.getElem?_map, hv] at hx
  cases hx
  exact .v v (ho v (List.mem_of_getElem? hv))

theorem mapM_places {P : Program} {w : World} : ∀ (fs : List Field), allTi P fs = true →
    ∃ ps : List (Nat × Nat), (fs.mapM (fun f => do pure (f.offset, ← sizeOf f.type) : Field → Sem (Nat × Nat))).run P w = .ok ps w ∧
      ∀ j : Nat, ps[j]? = (fs[j]?).bind fun (f : Field) => (ti P f.type).map fun x => (f.offset, x.size)
  | [], _ => ⟨[], by simp, by simp⟩
  | f :: fs, h => by
    simp only [allTi, Bool.and_eq_true] at h
    obtain ⟨ps, hp, hq⟩ := mapM_places (w := w) fs h.2
    obtain ⟨x, hx⟩ := Option.isSome_iff_exists.1 h.1
    refine ⟨(f.offset, x.size) :: ps, ?_, ?_⟩
    · simp only [List.mapM_cons, Sem.run_bind, ti_size hx, Result.andThen_ok, Sem.run_pure, hp]
    · intro j
      cases j with
      | zero => simp [hx]
      | succ j => simpa using hq j

theorem build_sound {P : Program} {G : Ghost} {w : World} {t : TypeId} {parts : List (Nat × AV)} {vparts : List (Nat × Value)} {k : AV → Prop}
    (h : buildAV P t parts k) (hl : parts.length = vparts.length)
    (hp : ∀ (i : Nat) (p : Nat × AV) (q : Nat × Value), parts[i]? = some p → vparts[i]? = some q → p.1 = q.1 ∧ Conc G w p.2 q.2) :
    ∃ r y, (Instr.build t vparts.toArray).run P w = .ok r w ∧ Conc G w y r ∧ k y := by
  unfold buildAV at h
  cases hti : ti P t with
  | none => simp [hti] at h
  | some i =>
    simp only [hti] at h
    obtain ⟨hall, h⟩ := h
    cases hfill : fillAV (placeOf P i) (i.zero.map .v) parts with
    | none => simp [hfill] at h
    | some cs =>
      simp only [hfill] at h
      obtain ⟨z1, z2⟩ := zero_conc (G := G) (w := w) hti
      obtain ⟨res, hr, hr2, hr3⟩ := fill_sound hl hp z1 z2 hfill
      obtain ⟨z, hz, hzc⟩ := ti_zero hti w
      have hu := ti_und hti w
      refine ⟨.agg res.toArray, .agg cs, ?_, .agg cs res hr2.1 hr3 hr2.2, h⟩
      cases hd : i.desc <;> simp only [hd] at hall <;> try exact hall.elim
      case struct fs =>
        rw [hd] at hu
        obtain ⟨ps, hps, hq⟩ := mapM_places (w := w) fs.toList hall
        have hps' : (fs.mapM (fun f => do pure (f.offset, ← sizeOf f.type) : Field → Sem (Nat × Nat))).run P w = .ok ps.toArray w := by
          rw [← Array.toArray_toList (xs := fs)]
          rw [List.mapM_toArray]
          change Sem.run P (do let a ← List.mapM (fun f : Field => do let s ← sizeOf f.type; pure (f.offset, s)) fs.toList; pure a.toArray) w = _
          rw [Sem.run_bind, hps]
          rfl
        have hfun : (fun j => ps.toArray[j]?) = placeOf P i := by
          funext j
          simp only [placeOf, hd, List.getElem?_toArray, hq]
          simp
        rw [← hfun] at hr
        simp only [Instr.build, Sem.run_bind, hz, Result.andThen_ok, hu, hps', hzc]
        rw [hr]
        simp
      case array n e =>
        rw [hd] at hu
        obtain ⟨x, hx⟩ := Option.isSome_iff_exists.1 hall
        have hfun : (fun j => some (j * x.size, x.size)) = placeOf P i := by
          funext j
          simp [placeOf, hd, hx]
        rw [← hfun] at hr
        simp only [Instr.build, Sem.run_bind, hz, Result.andThen_ok, hu, ti_size hx, hzc]
        rw [hr]
        simp

end Go.Proofs.Ytickejlolpoboaa.AM
