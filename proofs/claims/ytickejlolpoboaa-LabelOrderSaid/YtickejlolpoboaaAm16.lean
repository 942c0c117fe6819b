/- Code, in abstract terms. -/
import Derived.Test.YtickejlolpoboaaAm15r
set_option linter.all false
namespace Go.Proofs.Ytickejlolpoboaa.AM
open Go

/-- The condition under which an operation is carried out. -/
def gcond (ops : List Oper) (s : AS) (j : Nat) (want : Bool) : Option Bool :=
  match ops[j]? with
  | some oj =>
    match oj.dst with
    | some d => (match (s.tmps.getD d .any).boolUn with | some (g, b) => some (g && (b == want)) | none => none)
    | none => none
  | none => none

theorem gcond_sound {ops : List Oper} {s : AS} {o : Oper} {G : Ghost} {a : Act} {w : World} {j : Nat} {want g : Bool} (hg : o.guard = some (j, want)) (h : gcond ops s j want = some g) (hs : Sat G s a w) :
    Region.wanted o (yielded ops.toArray a.tmps) = g := by
  unfold gcond at h
  split at h
  · rename_i oj hj
    split at h
    · rename_i d hd
      split at h
      · rename_i c b hb
        cases h
        have hc := hs.raw (.tmp d)
        simp only [AS.raw] at hc
        have hy : c = true → yielded ops.toArray a.tmps j = some b := by
          intro hct
          have hv := boolUn_sound hb hc hct
          simp only [Act.eval] at hv
          have hlt : d < a.tmps.size := by
            rcases Nat.lt_or_ge d a.tmps.size with hl | hl
            · exact hl
            · simp [Array.getD, Nat.not_lt.2 hl, undef] at hv
          have hget : a.tmps[d]? = some (.bool b) := by
            rw [Array.getElem?_eq_getElem hlt]
            simpa [Array.getD, hlt] using hv
          simp [yielded, hj, hd, hget]
        cases c
        · have hn : yielded ops.toArray a.tmps j = none := by
            unfold AV.boolUn at hb
            split at hb
            · cases hb
            · rename_i g' b' he
              cases hb
              rw [he] at hc
              have hu : a.eval (.tmp d) = undef := by
                cases hc with
                | cnd _ _ _ _ h' => exact h' rfl
              simp only [Act.eval] at hu
              rcases Nat.lt_or_ge d a.tmps.size with hl | hl
              · have hget : a.tmps[d]? = some undef := by
                  rw [Array.getElem?_eq_getElem hl]
                  simpa [Array.getD, hl] using hu
                simp [yielded, hj, hd, hget, undef]
              · simp [yielded, hj, hd, Array.getElem?_eq_none hl]
            · cases hb
          simp [Region.wanted, hg, hn]
        · simp [Region.wanted, hg, hy rfl]
      · cases h
    · cases h
  · cases h

/-- What an operation that has no condition gives, its operands known under conditions: these, and what it gives. -/
def AV.split : AV → Bool × AV
  | .cnd g x => (g, x)
  | x => (true, x)

def intO (op : BinOp) (q : IntKind) (a b : Int) : Option Value :=
  match op with
  | .add => some (.int q (q.wrap (a + b)))
  | .sub => some (.int q (q.wrap (a - b)))
  | .eql => some (.bool (decide (a = b)))
  | .neq => some (.bool (!decide (a = b)))
  | .lss => some (.bool (decide (a < b)))
  | .leq => some (.bool (decide (a ≤ b)))
  | .gtr => some (.bool (decide (b < a)))
  | .geq => some (.bool (decide (b ≤ a)))
  | _ => none

def strO (op : BinOp) (a b : ByteArray) : Option Value :=
  match op with
  | .eql => some (.bool (decide (a = b)))
  | .neq => some (.bool (!decide (a = b)))
  | .lss => some (.bool (lessB a b))
  | .leq => some (.bool (!lessB b a))
  | .gtr => some (.bool (lessB b a))
  | .geq => some (.bool (!lessB a b))
  | _ => none

def lenO (P : Program) (t : TypeId) (x : Bool × AV) : Option (Bool × AV) :=
  match ti P t with
  | some i =>
    match i.desc, x with
    | .string, (g, .v (.string s)) => some (g, .v (.int .i64 s.size))
    | .slice _, (g, .sl rows _) => some (g, .v (.int .i64 rows.length))
    | .slice _, (g, .v (.slice none 0 0)) => some (g, .v (.int .i64 0))
    | _, _ => none
  | none => none

theorem lenO_sound {P : Program} {t : TypeId} {x : Bool × AV} {g : Bool} {y : AV} (h : lenO P t x = some (g, y)) : x.1 = g ∧ lenAV P t x.2 (fun r => r = y) := by
  unfold lenO at h
  unfold lenAV
  split at h
  · rename_i i hi
    simp only [hi]
    split at h
    · rename_i g' s hd
      simp only [Option.some.injEq, Prod.mk.injEq] at h
      simp only [hd]
      exact h
    · rename_i e g' rows tk hd
      simp only [Option.some.injEq, Prod.mk.injEq] at h
      simp only [hd]
      exact ⟨h.1, fun _ => h.2⟩
    · rename_i e g' hd
      simp only [Option.some.injEq, Prod.mk.injEq] at h
      simp only [hd]
      exact h
    · cases h
  · cases h

def totO (P : Program) (s : AS) : Op → Option (Bool × AV)
  | .move x => some ((s.raw x).split.1, (s.raw x).split.2)
  | .binOp op _ x y _ =>
    match (s.raw x).split, (s.raw y).split with
    | (g, .v (.int q a)), (h, .v (.int q' b)) => if q = q' then (intO op q a b).map fun r => (g && h, .v r) else none
    | (g, .v (.string a)), (h, .v (.string b)) => (strO op a b).map fun r => (g && h, .v r)
    | _, _ => none
  | .unOp .not _ x => (match (s.raw x).split with | (g, .v (.bool b)) => some (g, .v (.bool (!b))) | _ => none)
  | .pick c x y =>
    match (s.raw c).split, (s.raw x).boolUn, (s.raw y).boolUn with
    | (g, .v (.bool t)), some (h, p), some (i, q) => some (g && (bif t then h else i), .v (.bool (bif t then p else q)))
    | _, _, _ => none
  | .call c =>
    match c.callee, c.args.toList, c.argTypes.toList with
    | .builtin .len, [x], [t] => lenO P t (s.raw x).split
    | _, _, _ => none
  | _ => none

theorem split_sound {G : Ghost} {w : World} {x : AV} {v : Value} (h : Conc G w x v) (hg : x.split.1 = true) : Conc G w x.split.2 v := by
  cases x with
  | cnd g y => cases h with | cnd _ _ _ h _ => exact h hg
  | _ => exact h

theorem intO_sound {P : Program} {op : BinOp} {q : IntKind} {a b : Int} {r : Value} (h : intO op q a b = some r) (k : Value → Prop) (hk : k r) : sint op q a b k := by
  cases op <;> simp only [intO] at h <;> first | (cases h; done) | (cases h; exact hk)

theorem strO_sound {op : BinOp} {a b : ByteArray} {r : Value} (h : strO op a b = some r) (k : Value → Prop) (hk : k r) : sstr op a b k := by
  cases op <;> simp only [strO] at h <;> first | (cases h; done) | (cases h; exact hk)

theorem tot_sound {P : Program} {s : AS} {G : Ghost} {a : Act} {w : World} {op : Op} {g : Bool} {y : AV} (h : totO P s op = some (g, y)) (hs : Sat G s a w) (hg : g = true) {o : Oper} (ho : o.op = op)
    {next : Act → World → Prop} {Q : Exit → Act → World → Prop} (hk : ∀ v, Conc G w y v → next (a.put o.dst v) w) : o.wp P a w next Q := by
  unfold totO at h
  split at h
  · rename_i x
    simp only [Option.some.injEq, Prod.mk.injEq] at h
    obtain ⟨h1, h2⟩ := h
    refine op_value (x := pure (a.eval x)) (by simp [execOp, ho]) rfl (hk _ ?_)
    rw [← h2]
    exact split_sound (hs.raw x) (by rw [h1]; exact hg)
  · rename_i bop t x z tz
    split at h
    · rename_i gx q i gz q' j e1 e2
      split at h
      · rename_i hq
        subst hq
        cases hr : intO bop q i j with
        | none => simp [hr] at h
        | some r =>
          simp only [hr, Option.map_some, Option.some.injEq, Prod.mk.injEq] at h
          obtain ⟨h1, h2⟩ := h
          rw [← h1, Bool.and_eq_true] at hg
          have k1 := split_sound (hs.raw x) (by rw [e1]; exact hg.1)
          have k2 := split_sound (hs.raw z) (by rw [e2]; exact hg.2)
          rw [e1] at k1; rw [e2] at k2
          have hbin : sbin bop (.int q i) (.int q j) (fun v => v = r) := by
            have := intO_sound (P := P) hr (fun v => v = r) rfl
            cases bop <;> first | exact ⟨rfl, this⟩ | (simp [intO] at hr; done)
          have e3 := conc_v k1
          have e4 := conc_v k2
          obtain ⟨v, hv1, hv2, hv3⟩ := sbin_sound (P := P) hbin t x z w
          refine op_value (x := (do eqGuard bop t x z (a.eval x) (a.eval z); binOp bop t (a.eval x) (a.eval z))) (by simp [execOp, ho]) (by rw [e3, e4]; exact hv1) (hk _ ?_)
          rw [← h2, ← hv3]
          exact .v _ hv2
      · cases h
    · rename_i gx i gz j e1 e2
      cases hr : strO bop i j with
      | none => simp [hr] at h
      | some r =>
        simp only [hr, Option.map_some, Option.some.injEq, Prod.mk.injEq] at h
        obtain ⟨h1, h2⟩ := h
        rw [← h1, Bool.and_eq_true] at hg
        have k1 := split_sound (hs.raw x) (by rw [e1]; exact hg.1)
        have k2 := split_sound (hs.raw z) (by rw [e2]; exact hg.2)
        rw [e1] at k1; rw [e2] at k2
        have hbin : sbin bop (.string i) (.string j) (fun v => v = r) := strO_sound hr (fun v => v = r) rfl
        have e3 := conc_v k1
        have e4 := conc_v k2
        obtain ⟨v, hv1, hv2, hv3⟩ := sbin_sound (P := P) hbin t x z w
        refine op_value (x := (do eqGuard bop t x z (a.eval x) (a.eval z); binOp bop t (a.eval x) (a.eval z))) (by simp [execOp, ho]) (by rw [e3, e4]; exact hv1) (hk _ ?_)
        rw [← h2, ← hv3]
        exact .v _ hv2
    · cases h
  · rename_i t x
    split at h
    · rename_i gx b e1
      simp only [Option.some.injEq, Prod.mk.injEq] at h
      obtain ⟨h1, h2⟩ := h
      have k1 := split_sound (hs.raw x) (by rw [e1, h1]; exact hg)
      rw [e1] at k1
      have e3 := conc_v k1
      refine op_value (x := Op.unary .not (a.eval x)) (by simp [execOp, ho]) (by rw [e3]; rfl) (hk _ ?_)
      rw [← h2]
      exact .v _ rfl
    · cases h
  · rename_i c x z
    split at h
    · rename_i gc t p1 p q1 q e1 e2 e3
      simp only [Option.some.injEq, Prod.mk.injEq] at h
      obtain ⟨h1, h2⟩ := h
      rw [← h1, Bool.and_eq_true] at hg
      have k1 := split_sound (hs.raw c) (by rw [e1]; exact hg.1)
      rw [e1] at k1
      have hc := conc_v k1
      refine op_value (x := pure (if t then a.eval x else a.eval z)) (by cases t <;> simp [execOp, ho, hc, asBool]) rfl (hk _ ?_)
      rw [← h2]
      cases t
      · have := boolUn_sound e3 (hs.raw z) hg.2
        simp only [Bool.false_eq_true, if_false, cond_false]
        rw [this]; exact .v _ rfl
      · have := boolUn_sound e2 (hs.raw x) hg.2
        simp only [if_true, cond_true]
        rw [this]; exact .v _ rfl
    · cases h
  · rename_i c
    split at h
    · rename_i x t hce hca hct
      obtain ⟨k0, k1⟩ := lenO_sound h
      have k2 := split_sound (hs.raw x) (by rw [k0]; exact hg)
      obtain ⟨r, z, h1, h2, h3⟩ := len_sound (P := P) c.argTypes o.type k1 k2 (by rw [← Array.getElem?_toList, hct]; rfl)
      have hargs : c.args.map a.eval = #[a.eval x] := by
        rw [← Array.toArray_toList (xs := c.args), hca]; simp
      refine op_value (x := Builtin.len_ c.argTypes o.type #[a.eval x]) ?_ h1 (hk _ ?_)
      · simp only [execOp, ho, resolve, hce, hargs]
        rfl
      · rw [← h3]; exact h2
    · cases h
  · cases h

theorem tot_run {P : Program} {s : AS} {G : Ghost} {a : Act} {w : World} {op : Op} {g : Bool} {y : AV} (h : totO P s op = some (g, y)) (hs : Sat G s a w) (hg : g = true) {o : Oper} (ho : o.op = op)
    {next : Act → Prop} (hk : ∀ v, Conc G w y v → next (a.put o.dst v)) : ∃ u, (execOp a.eval o).run P w = .ok (.value u) w ∧ next (a.put o.dst u) := by
  unfold totO at h
  split at h
  · rename_i x
    simp only [Option.some.injEq, Prod.mk.injEq] at h
    obtain ⟨h1, h2⟩ := h
    refine op_value' (x := pure (a.eval x)) (by simp [execOp, ho]) rfl (hk _ ?_)
    rw [← h2]
    exact split_sound (hs.raw x) (by rw [h1]; exact hg)
  · rename_i bop t x z tz
    split at h
    · rename_i gx q i gz q' j e1 e2
      split at h
      · rename_i hq
        subst hq
        cases hr : intO bop q i j with
        | none => simp [hr] at h
        | some r =>
          simp only [hr, Option.map_some, Option.some.injEq, Prod.mk.injEq] at h
          obtain ⟨h1, h2⟩ := h
          rw [← h1, Bool.and_eq_true] at hg
          have k1 := split_sound (hs.raw x) (by rw [e1]; exact hg.1)
          have k2 := split_sound (hs.raw z) (by rw [e2]; exact hg.2)
          rw [e1] at k1; rw [e2] at k2
          have hbin : sbin bop (.int q i) (.int q j) (fun v => v = r) := by
            have := intO_sound (P := P) hr (fun v => v = r) rfl
            cases bop <;> first | exact ⟨rfl, this⟩ | (simp [intO] at hr; done)
          have e3 := conc_v k1
          have e4 := conc_v k2
          obtain ⟨v, hv1, hv2, hv3⟩ := sbin_sound (P := P) hbin t x z w
          refine op_value' (x := (do eqGuard bop t x z (a.eval x) (a.eval z); binOp bop t (a.eval x) (a.eval z))) (by simp [execOp, ho]) (by rw [e3, e4]; exact hv1) (hk _ ?_)
          rw [← h2, ← hv3]
          exact .v _ hv2
      · cases h
    · rename_i gx i gz j e1 e2
      cases hr : strO bop i j with
      | none => simp [hr] at h
      | some r =>
        simp only [hr, Option.map_some, Option.some.injEq, Prod.mk.injEq] at h
        obtain ⟨h1, h2⟩ := h
        rw [← h1, Bool.and_eq_true] at hg
        have k1 := split_sound (hs.raw x) (by rw [e1]; exact hg.1)
        have k2 := split_sound (hs.raw z) (by rw [e2]; exact hg.2)
        rw [e1] at k1; rw [e2] at k2
        have hbin : sbin bop (.string i) (.string j) (fun v => v = r) := strO_sound hr (fun v => v = r) rfl
        have e3 := conc_v k1
        have e4 := conc_v k2
        obtain ⟨v, hv1, hv2, hv3⟩ := sbin_sound (P := P) hbin t x z w
        refine op_value' (x := (do eqGuard bop t x z (a.eval x) (a.eval z); binOp bop t (a.eval x) (a.eval z))) (by simp [execOp, ho]) (by rw [e3, e4]; exact hv1) (hk _ ?_)
        rw [← h2, ← hv3]
        exact .v _ hv2
    · cases h
  · rename_i t x
    split at h
    · rename_i gx b e1
      simp only [Option.some.injEq, Prod.mk.injEq] at h
      obtain ⟨h1, h2⟩ := h
      have k1 := split_sound (hs.raw x) (by rw [e1, h1]; exact hg)
      rw [e1] at k1
      have e3 := conc_v k1
      refine op_value' (x := Op.unary .not (a.eval x)) (by simp [execOp, ho]) (by rw [e3]; rfl) (hk _ ?_)
      rw [← h2]
      exact .v _ rfl
    · cases h
  · rename_i c x z
    split at h
    · rename_i gc t p1 p q1 q e1 e2 e3
      simp only [Option.some.injEq, Prod.mk.injEq] at h
      obtain ⟨h1, h2⟩ := h
      rw [← h1, Bool.and_eq_true] at hg
      have k1 := split_sound (hs.raw c) (by rw [e1]; exact hg.1)
      rw [e1] at k1
      have hc := conc_v k1
      refine op_value' (x := pure (if t then a.eval x else a.eval z)) (by cases t <;> simp [execOp, ho, hc, asBool]) rfl (hk _ ?_)
      rw [← h2]
      cases t
      · have := boolUn_sound e3 (hs.raw z) hg.2
        simp only [Bool.false_eq_true, if_false, cond_false]
        rw [this]; exact .v _ rfl
      · have := boolUn_sound e2 (hs.raw x) hg.2
        simp only [if_true, cond_true]
        rw [this]; exact .v _ rfl
    · cases h
  · rename_i c
    split at h
    · rename_i x t hce hca hct
      obtain ⟨k0, k1⟩ := lenO_sound h
      have k2 := split_sound (hs.raw x) (by rw [k0]; exact hg)
      obtain ⟨r, z, h1, h2, h3⟩ := len_sound (P := P) c.argTypes o.type k1 k2 (by rw [← Array.getElem?_toList, hct]; rfl)
      have hargs : c.args.map a.eval = #[a.eval x] := by
        rw [← Array.toArray_toList (xs := c.args), hca]; simp
      refine op_value' (x := Builtin.len_ c.argTypes o.type #[a.eval x]) ?_ h1 (hk _ ?_)
      · simp only [execOp, ho, resolve, hce, hargs]
        rfl
      · rw [← h3]; exact h2
    · cases h
  · cases h

def guardAV (P : Program) (ops : List Oper) (s : AS) (o : Oper) (now : AS → Prop) (run skip : Prop) : Prop :=
  match o.guard with
  | none => run
  | some (j, want) =>
    match gcond ops s j want with
    | some g =>
      match totO P s o.op with
      | some (h, y) => (g = true → h = true) ∧ now (s.put o.dst (.cnd g y))
      | none => (g = true → run) ∧ (g = false → skip)
    | none => False

def aops (P : Program) (ops : List Oper) : List Oper → AS → (AS → Prop) → (AV → List Obj → Prop) → Prop
  | [], s, K, _ => K s
  | o :: rest, s, K, E => guardAV P ops s o (fun s' => aops P ops rest s' K E) (aop P o s (fun s' => aops P ops rest s' K E) E) (aops P ops rest (s.put o.dst .any) K E)

/-- .. in a region whose order is drawn: operations that only read. -/
def aopsQ (P : Program) (ops : List Oper) : List Oper → AS → (AS → Prop) → Prop
  | [], s, K => K s
  | o :: rest, s, K => isQ o.op = true ∧ guardAV P ops s o (fun s' => aopsQ P ops rest s' K) (aop P o s (fun s' => aopsQ P ops rest s' K) (fun _ _ => False)) (aopsQ P ops rest (s.put o.dst .any) K)

theorem aopsQ_sound {P : Program} {ops : List Oper} {K : AS → Prop} {G : Ghost} {w : World} {Q : Act → Prop} (hQ : ∀ s a, K s → Sat G s a w → Q a) :
    ∀ (l : List Oper) (s : AS) (a : Act), aopsQ P ops l s K → Sat G s a w → wpQuiet P ops.toArray (fun w' => w' = w) Q l a
  | [], s, a, h, hs => hQ s a h hs
  | o :: rest, s, a, h, hs => by
    obtain ⟨hq, h⟩ := h
    have hquiet : ∀ (Ks : AS → Prop), (∀ s' a', Ks s' → Sat G s' a' w → wpQuiet P ops.toArray (fun w' => w' = w) Q rest a') → (∃ u, (execOp a.eval o).run P w = .ok (.value u) w ∧ ReadOk Ks G w (a.put o.dst u)) → o.quiet P a (fun w' => w' = w) (wpQuiet P ops.toArray (fun w' => w' = w) Q rest) := by
      rintro Ks hKs ⟨u, h1, s', h2, h3⟩
      refine ⟨u, ?_, hKs s' _ h2 h3⟩
      rintro w' rfl
      unfold Oper.quietAt
      rw [h1]
      exact ⟨rfl, rfl⟩
    have hrun : aop P o s (fun s' => aopsQ P ops rest s' K) (fun _ _ => False) → o.quiet P a (fun w' => w' = w) (wpQuiet P ops.toArray (fun w' => w' = w) Q rest) := fun h =>
      hquiet _ (fun s' a' h1 h2 => aopsQ_sound hQ rest s' a' h1 h2) (aopQ_sound hq h hs)
    simp only [guardAV] at h
    unfold wpQuiet
    split at h
    · rename_i hg
      rw [if_pos (by simp [Region.wanted, hg])]
      exact hrun h
    · rename_i j want hg
      split at h
      · rename_i g hgc
        have hw := gcond_sound hg hgc hs
        rw [hw]
        split at h
        · rename_i c y ht
          obtain ⟨hh, h⟩ := h
          cases g
          · rw [if_neg (by simp)]
            exact aopsQ_sound hQ rest _ _ h (hs.put0 o.dst (.cnd _ _ _ (fun h => by cases h) (fun _ => rfl)))
          · rw [if_pos rfl]
            refine hquiet (fun s' => aopsQ P ops rest s' K) (fun s' a' h1 h2 => aopsQ_sound hQ rest s' a' h1 h2) (tot_run ht hs (hh rfl) rfl fun v hv => ?_)
            exact ⟨_, h, hs.put0 o.dst (.cnd _ _ _ (fun _ => hv) (fun h => by cases h))⟩
        · obtain ⟨h1, h2⟩ := h
          cases g
          · rw [if_neg (by simp)]
            exact aopsQ_sound hQ rest _ _ (h2 rfl) (hs.put0 o.dst (.any _))
          · rw [if_pos rfl]
            exact hrun (h1 rfl)
      · exact h.elim

/-- From the entry's ghost and world on. -/
structure From (G0 : Ghost) (w0 : World) (G : Ghost) (s : AS) (a : Act) (w : World) : Prop where
  step : Step G0 w0 G w
  sat : Sat G s a w

theorem aops_sound {P : Program} {ops : List Oper} {G0 : Ghost} {w0 : World} {K : AS → Prop} {E : AV → List Obj → Prop} {Q : Exit → Act → World → Prop}
    (hK : ∀ s G a w, K s → From G0 w0 G s a w → Q .normal a w)
    (hE : ∀ x objs G v a w, E x objs → a.defers = [] → Mem G objs w → Step G0 w0 G w → Conc G w x v → Q (.panic [{ v, recovered := false }]) a w) :
    ∀ (l : List Oper) (s : AS) (G : Ghost) (a : Act) (w : World), aops P ops l s K E → From G0 w0 G s a w → wpList P ops.toArray Q l a w
  | [], s, G, a, w, h, hf => hK s G a w h hf
  | o :: rest, s, G, a, w, h, hf => by
    refine wpList_step fun K' hK' => ?_
    have hrun : aop P o s (fun s' => aops P ops rest s' K E) E → o.wp P a w K' Q := by
      intro hrun
      have := aop_sound (Q := Q) hrun hf.sat (fun x objs' G' v w' h1 h2 h3 h4 => hE x objs' G' v a w' h1 hf.sat.defers h2 (hf.step.trans h3) h4)
      unfold Oper.wp at this ⊢
      generalize (execOp a.eval o).run P w = r at this ⊢
      have hnext : ∀ a' w', NextOk (fun s' => aops P ops rest s' K E) G w a' w' → K' a' w' := by
        rintro a' w' ⟨s', G', h1, h2, h3⟩
        exact hK' a' w' (aops_sound hK hE rest s' G' a' w' h1 ⟨hf.step.trans h3, h2⟩)
      cases r with
      | ok nx w' =>
        cases nx <;> simp only [Oper.upon] at this ⊢ <;> first | exact this | exact hnext _ _ this | skip
        · refine this.mono ?_
          intro e w'' he
          cases e with
          | returned v => exact hnext _ _ he
          | panicked chain => exact he
          | outgrown => exact he
        · exact this.mono fun v w'' he => hnext _ _ he
      | halt hh w' => cases hh <;> simp only [Oper.upon] at this ⊢ <;> exact this
    simp only [aops, guardAV] at h
    split at h
    · rename_i hg
      rw [if_pos (by simp [Region.wanted, hg])]
      exact hrun h
    · rename_i j want hg
      split at h
      · rename_i g hgc
        have hw := gcond_sound hg hgc hf.sat
        rw [hw]
        split at h
        · rename_i c y ht
          obtain ⟨hh, h⟩ := h
          cases g
          · rw [if_neg (by simp)]
            exact hK' _ _ (aops_sound hK hE rest _ G _ _ h ⟨hf.step, hf.sat.put0 o.dst (.cnd _ _ _ (fun h => by cases h) (fun _ => rfl))⟩)
          · rw [if_pos rfl]
            exact tot_sound ht hf.sat (hh rfl) rfl fun v hv => hK' _ _ (aops_sound hK hE rest _ G _ _ h ⟨hf.step, hf.sat.put0 o.dst (.cnd _ _ _ (fun _ => hv) (fun h => by cases h))⟩)
        · obtain ⟨h1, h2⟩ := h
          cases g
          · rw [if_neg (by simp)]
            exact hK' _ _ (aops_sound hK hE rest _ G _ _ (h2 rfl) ⟨hf.step, hf.sat.put0 o.dst (.any _)⟩)
          · rw [if_pos rfl]
            exact hrun (h1 rfl)
      · exact h.elim

inductive AX where
  | normal | exit (id : Nat) | ret

def AX.ok : AX → Exit → Prop
  | .normal, .normal => True
  | .exit i, .exit j => i = j
  | .ret, .ret => True
  | _, _ => False

/-- What is known in one state is known in the other. -/
def Weak (n0 : Nat) (s s' : AS) : Prop :=
  ∀ G0 w0 G a w, G0.bl.length = n0 → From G0 w0 G s a w → ∃ G', From G0 w0 G' s' a w

theorem Weak.refl (n0 : Nat) (s : AS) : Weak n0 s s := fun _ _ G _ _ _ h => ⟨G, h⟩
theorem Weak.trans {n0 : Nat} {s1 s2 s3 : AS} (h : Weak n0 s1 s2) (k : Weak n0 s2 s3) : Weak n0 s1 s3 :=
  fun G0 w0 G a w hn hf => let ⟨G', hf'⟩ := h G0 w0 G a w hn hf; k G0 w0 G' a w hn hf'

def seqQ (n0 : Nat) (next : AS → Prop) (Q : AX → AS → Prop) : AX → AS → Prop
  | .normal, s => ∃ s', Weak n0 s s' ∧ next s'
  | .exit i, s => Q (.exit i) s
  | .ret, s => Q .ret s

def blockQ (id : Nat) (Q : AX → AS → Prop) : AX → AS → Prop
  | .normal, s => Q .normal s
  | .exit i, s => if i = id then Q .normal s else Q (.exit i) s
  | .ret, s => Q .ret s

def loopQ (n0 : Nat) (I : Nat → AS → Prop) (n : Nat) (Q : AX → AS → Prop) : AX → AS → Prop
  | .normal, s => ∃ m s', Weak n0 s s' ∧ m < n ∧ I m s'
  | .exit i, s => Q (.exit i) s
  | .ret, s => Q .ret s

/-- A region whose order is drawn: whatever the order. -/
def adraw (P : Program) (ops : Array Oper) (s : AS) (K : AS → Prop) : Prop :=
  P.follows .mixedOrders = true ∧ Region.lexB .any ops = true ∧ (aopsQ P ops.toList ops.toList s K ∨ aopsC P ops ops.toList s K)

def awp (P : Program) (n0 : Nat) : Code → AS → (AX → AS → Prop) → (AV → List Obj → Prop) → Prop
  | .skip, s, Q, _ => Q .normal s
  | .region _ ops draw, s, Q, E => (draw = false → aops P ops.toList ops.toList s (Q .normal) E) ∧ (draw = true → adraw P ops s (Q .normal))
  | .seq a b, s, Q, E => awp P n0 a s (seqQ n0 (fun s' => awp P n0 b s' Q E) Q) E
  | .cond c t e, s, Q, E => (match s.eval c with | .v (.bool b) => (b = true → awp P n0 t s Q E) ∧ (b = false → awp P n0 e s Q E) | _ => False)
  | .block id c, s, Q, E => awp P n0 c s (blockQ id Q) E
  | .loop c, s, Q, E => ∃ I : Nat → AS → Prop, (∃ n s', Weak n0 s s' ∧ I n s') ∧ ∀ n s', I n s' → awp P n0 c s' (loopQ n0 I n Q) E
  | .exit id, s, Q, _ => Q (.exit id) s
  | .ret, s, Q, _ => Q .ret s
  | _, _, _, _ => False

theorem wp_loopN {P : Program} {Q : Exit → Act → World → Prop} {c : Code} (I : Nat → Act → World → Prop)
    (round : ∀ n a w, I n a w → c.wp P (Exit.then (fun a' w' => ∃ m, m < n ∧ I m a' w') Q) a w) {n : Nat} {a : Act} {w : World} (h₀ : I n a w) : (Code.loop c).wp P Q a w := by
  intro b k cs
  have key : ∀ n a w, I n a w →
      ∃ e a' w', Q e a' w' ∧ Arrives P (lone (b.at a (.code c :: .inLoop c :: k)) cs w) b k cs e a' w' := by
    intro n
    induction n using Nat.strongRecOn with
    | _ n ih =>
      intro a w hI
      obtain ⟨e, a₁, w₁, hq, harr⟩ := round n a w hI b (.inLoop c :: k) cs
      cases e with
      | normal =>
        obtain ⟨m, hlt, hI₁⟩ := hq
        obtain ⟨e₂, a₂, w₂, hq₂, harr₂⟩ := ih m hlt a₁ w₁ hI₁
        exact ⟨e₂, a₂, w₂, hq₂, .of_steps (Steps.trans harr (.one step_inLoop)) harr₂⟩
      | exit id => exact ⟨_, a₁, w₁, hq, .pass (x := .inLoop c) rfl (fun _ _ => .inl (by simp)) harr⟩
      | goto l => exact ⟨_, a₁, w₁, hq, .pass (x := .inLoop c) rfl (fun _ _ => .inl (by simp)) harr⟩
      | ret => exact ⟨_, a₁, w₁, hq, .pass (x := .inLoop c) rfl (fun _ _ => .inl (by simp)) harr⟩
      | panic ch => exact ⟨_, a₁, w₁, hq, .pass (x := .inLoop c) rfl (fun _ _ => .inl (by simp)) harr⟩
      | outgrown => exact ⟨_, a₁, w₁, hq, .pass (x := .inLoop c) rfl (fun _ _ => .inl (by simp)) harr⟩
  obtain ⟨e, a', w', hq, harr⟩ := key _ a w h₀
  exact ⟨e, a', w', hq, .of_steps (.one step_loop) harr⟩

def QOk (G0 : Ghost) (w0 : World) (Q : AX → AS → Prop) (E : AV → List Obj → Prop) (e : Exit) (a : Act) (w : World) : Prop :=
  (∃ ax s G, Q ax s ∧ ax.ok e ∧ From G0 w0 G s a w) ∨
  (∃ x objs G v, E x objs ∧ a.defers = [] ∧ Mem G objs w ∧ Step G0 w0 G w ∧ Conc G w x v ∧ e = .panic [{ v, recovered := false }])

theorem schedule_list {P : Program} {ops : Array Oper} {Q : Exit → Act → World → Prop} : ∀ (l : List Nat) (a : Act) (w : World), (∀ i ∈ l, i < ops.size) → wpList P ops Q (l.filterMap (ops[·]?)) a w → wpOps P ops Q l a w
  | [], a, w, _, h => h
  | i :: l, a, w, hl, h => by
    have hi : i < ops.size := hl i (by simp)
    have hget : ops[i]? = some ops[i] := Array.getElem?_eq_getElem hi
    rw [List.filterMap_cons, hget] at h
    simp only [wpList] at h
    have hrest : ∀ a w, wpList P ops Q (l.filterMap (ops[·]?)) a w → wpOps P ops Q l a w := fun a w => schedule_list l a w (fun j hj => hl j (by simp [hj]))
    simp only [wpOps, hget]
    split at h
    · rename_i hw
      rw [if_pos hw]
      rcases h with h | h
      · left
        unfold Oper.wp at h ⊢
        generalize (execOp a.eval ops[i]).run P w = r at h ⊢
        cases r with
        | ok nx w' =>
          cases nx <;> simp only [Oper.upon] at h ⊢ <;> first | exact h | exact hrest _ _ h | skip
          · refine h.mono ?_
            intro e w'' he
            cases e with
            | returned v => exact hrest _ _ he
            | panicked chain => exact he
            | outgrown => exact he
          · exact h.mono fun v w'' he => hrest _ _ he
        | halt hh w' => cases hh <;> simp only [Oper.upon] at h ⊢ <;> exact h
      · exact .inr h
    · rename_i hw
      rw [if_neg hw]
      exact hrest _ _ h

theorem From.drew {G0 : Ghost} {w0 : World} {G : Ghost} {s : AS} {a : Act} {w : World} (h : From G0 w0 G s a w) : From G0 w0 G s a w.drew := by
  obtain ⟨s1, s2⟩ := More.step h.sat.mem ((More.refl w).drew) (imm' := G.imm) (fun _ _ h => h) (fun _ _ h => .inl h)
  exact ⟨h.step.trans s1, ⟨s2, h.sat.tmps.mono s1.ext, h.sat.defers⟩⟩

theorem awp_sound {P : Program} {n0 : Nat} {G0 : Ghost} {w0 : World} (hn : G0.bl.length = n0) {E : AV → List Obj → Prop}
    (hsch : ∀ (ops : Array Oper) t, ∀ i ∈ Region.schedule (P.follows .mixedOrders) ops t, i < ops.size) :
    ∀ (c : Code) (s : AS) (Q : AX → AS → Prop) (G : Ghost) (a : Act) (w : World), awp P n0 c s Q E → From G0 w0 G s a w → c.wp P (QOk G0 w0 Q E) a w
  | .skip, s, Q, G, a, w, h, hf => wp_skip (.inl ⟨.normal, s, G, h, trivial, hf⟩)
  | .exit id, s, Q, G, a, w, h, hf => wp_exit (.inl ⟨.exit id, s, G, h, rfl, hf⟩)
  | .ret, s, Q, G, a, w, h, hf => wp_ret (.inl ⟨.ret, s, G, h, trivial, hf⟩)
  | .region id ops false, s, Q, G, a, w, h, hf => by
    refine wp_region_list ?_
    have := aops_sound (P := P) (ops := ops.toList) (G0 := G0) (w0 := w0) (K := Q .normal) (E := E) (Q := QOk G0 w0 Q E)
      (fun s G a w h1 h2 => .inl ⟨.normal, s, G, h1, trivial, h2⟩) (fun x objs G v a w h1 h2 h3 h4 h5 => .inr ⟨x, objs, G, v, h1, h2, h3, h4, h5, rfl⟩) ops.toList s G a w (h.1 rfl) hf
    simpa using this
  | .region id ops true, s, Q, G, a, w, h, hf => by
    obtain ⟨h1, h2, h3⟩ := h.2 rfl
    have hd := hf.drew
    rcases h3 with h3 | h3
    · refine wp_region_quiet (C := fun w' => w' = w.drew) h1 h2 rfl ?_
      have := aopsQ_sound (P := P) (ops := ops.toList) (K := Q .normal) (G := G) (w := w.drew) (Q := fun a' => ∀ w', w' = w.drew → QOk G0 w0 Q E .normal a' w')
        (fun s a' k1 k2 w' hw' => by subst hw'; exact .inl ⟨.normal, s, G, k1, trivial, hd.step, k2⟩) ops.toList s a h3 hd.sat
      simpa using this
    · exact region_comm (G0 := G0) (w0 := w0) (G := G) (s := s) h1 h2 (fun G s a w k1 k2 k3 => .inl ⟨.normal, s, G, k1, trivial, k2, k3⟩) h3 hd.step hd.sat
  | .seq x y, s, Q, G, a, w, h, hf => by
    refine wp_seq ?_
    refine wp_mono (awp_sound hn hsch x s _ G a w h hf) ?_
    rintro e a' w' (⟨ax, s', G', h1, h2, h3⟩ | hp)
    · cases ax <;> cases e <;> first | exact h2.elim | skip
      · obtain ⟨s1, hw1, h1⟩ := h1
        obtain ⟨G1, hf1⟩ := hw1 G0 w0 G' a' w' hn h3
        exact awp_sound hn hsch y s1 Q G1 a' w' h1 hf1
      · exact .inl ⟨_, s', G', h1, h2, h3⟩
      · exact .inl ⟨_, s', G', h1, h2, h3⟩
    · obtain ⟨x', objs, G', v, h1, h2, h3, h4, h5, rfl⟩ := hp
      exact .inr ⟨x', objs, G', v, h1, h2, h3, h4, h5, rfl⟩
  | .cond c x y, s, Q, G, a, w, h, hf => by
    simp only [awp] at h
    split at h
    · rename_i b hb
      have hv := conc_v (hb ▸ hf.sat.eval c)
      exact wp_cond_split hv (fun hb => awp_sound hn hsch x s Q G a w (h.1 hb) hf) (fun hb => awp_sound hn hsch y s Q G a w (h.2 hb) hf)
    · exact h.elim
  | .block id c, s, Q, G, a, w, h, hf => by
    refine wp_block ?_
    refine wp_mono (awp_sound hn hsch c s _ G a w h hf) ?_
    rintro e a' w' (⟨ax, s', G', h1, h2, h3⟩ | hp)
    · cases ax with
      | normal => cases e <;> first | exact h2.elim | exact .inl ⟨.normal, s', G', h1, trivial, h3⟩
      | ret => cases e <;> first | exact h2.elim | exact .inl ⟨.ret, s', G', h1, trivial, h3⟩
      | exit i =>
        cases e <;> first | exact h2.elim | skip
        rename_i j
        cases h2
        simp only [blockQ] at h1
        simp only [Exit.inBlock]
        split
        · rename_i hij
          rw [if_pos hij] at h1
          exact .inl ⟨.normal, s', G', h1, trivial, h3⟩
        · rename_i hij
          rw [if_neg hij] at h1
          exact .inl ⟨.exit i, s', G', h1, rfl, h3⟩
    · obtain ⟨x', objs, G', v, h1, h2, h3, h4, h5, rfl⟩ := hp
      exact .inr ⟨x', objs, G', v, h1, h2, h3, h4, h5, rfl⟩
  | .loop c, s, Q, G, a, w, h, hf => by
    obtain ⟨I, ⟨n, s1, hw1, hI⟩, hround⟩ := h
    obtain ⟨G1, hf1⟩ := hw1 G0 w0 G a w hn hf
    refine wp_loopN (fun n a w => ∃ s G, I n s ∧ From G0 w0 G s a w) ?_ (n := n) ⟨s1, G1, hI, hf1⟩
    rintro n a w ⟨s', G', hI', hf'⟩
    refine wp_mono (awp_sound hn hsch c s' _ G' a w (hround n s' hI') hf') ?_
    rintro e a' w' (⟨ax, s2, G2, h1, h2, h3⟩ | hp)
    · cases ax <;> cases e <;> first | exact h2.elim | skip
      · obtain ⟨m, s3, hw3, hlt, hI3⟩ := h1
        obtain ⟨G3, hf3⟩ := hw3 G0 w0 G2 a' w' hn h3
        exact ⟨m, hlt, s3, G3, hI3, hf3⟩
      · exact .inl ⟨_, s2, G2, h1, h2, h3⟩
      · exact .inl ⟨_, s2, G2, h1, h2, h3⟩
    · obtain ⟨x', objs, G', v, h1, h2, h3, h4, h5, rfl⟩ := hp
      exact .inr ⟨x', objs, G', v, h1, h2, h3, h4, h5, rfl⟩
  | .rangeFunc .., _, _, _, _, _, h, _ => h.elim
  | .scope .., _, _, _, _, _, h, _ => h.elim
  | .label .., _, _, _, _, _, h, _ => h.elim
  | .goto .., _, _, _, _, _, h, _ => h.elim
  | .refuse .., _, _, _, _, _, h, _ => h.elim

end Go.Proofs.Ytickejlolpoboaa.AM
