/- Slicing, composite values, parts of tuples, single operands, conversions, comparison of structs. -/
import Derived.Test.YtickejlolpoboaaAm5
set_option linter.all false
namespace Go.Proofs.Ytickejlolpoboaa.AM
open Go

def ioptAV : Option AV → Int → Option Int
  | none, d => some d
  | some (.v (.int _ n)), _ => some n
  | _, _ => none

def Tk.sub : Tk → Tk
  | .own o => .own o
  | _ => .none

def Tk.isOwn : Tk → Bool
  | .own _ => true
  | _ => false

def sliceAV (P : Program) (t : TypeId) (x : AV) (lo hi mx : Option AV) (k : AV → Prop) : Prop :=
  match ti P t with
  | some i =>
    match i.desc, x with
    | .string, .v (.string s) =>
      match mx, ioptAV lo 0, ioptAV hi s.size with
      | none, some l, some h => 0 ≤ l ∧ l ≤ h ∧ h ≤ s.size ∧ k (.v (.string (s.extract l.toNat h.toNat)))
      | _, _, _ => False
    | .slice e, .sl rows tk =>
      match ti P e, ioptAV lo 0, ioptAV hi rows.length with
      | some j, some l, some h =>
        (∀ r ∈ rows, r.length = j.size) ∧ 0 ≤ l ∧ l ≤ h ∧ h ≤ rows.length ∧
        (match mx with
          | none => k (.sl ((rows.take h.toNat).drop l.toNat) tk.sub)
          | some (.v (.int _ m)) => m = h ∧ hi.isSome = true ∧ (tk.isOwn = true → h = l) ∧ k (.sl ((rows.take h.toNat).drop l.toNat) .exact)
          | _ => False)
      | _, _, _ => False
    | .slice e, .v (.slice none 0 0) =>
      match ti P e, ioptAV lo 0, ioptAV hi 0, ioptAV mx 0 with
      | some _, some l, some h, some m => l = 0 ∧ h = 0 ∧ m = 0 ∧ (mx.isSome = true → hi.isSome = true) ∧ k (.v (.slice none 0 0))
      | _, _, _, _ => False
    | .array n e, .ptr o off =>
      match ti P e, mx, ioptAV lo 0, ioptAV hi n with
      | some j, none, some l, some h => 0 ≤ l ∧ l ≤ h ∧ h ≤ n ∧ n ≤ maxLen ∧ k (.bsl o (off + l.toNat * j.size) (h - l).toNat)
      | _, _, _, _ => False
    | .slice e, .bsl o off len =>
      match ti P e, mx, ioptAV lo 0, ioptAV hi len with
      | some j, none, some l, some h => 0 ≤ l ∧ l ≤ h ∧ h ≤ len ∧ k (.bsl o (off + l.toNat * j.size) (h - l).toNat)
      | _, _, _, _ => False
    | _, _ => False
  | none => False

def ConcO (G : Ghost) (w : World) (x : Option AV) (v : Option Value) : Prop :=
  match x, v with | none, none => True | some x, some v => Conc G w x v | _, _ => False

theorem iopt_cases {G : Ghost} {w : World} {x : Option AV} {v : Option Value} {d n : Int} (hc : ConcO G w x v) (h : ioptAV x d = some n) :
    (x = none ∧ v = none ∧ n = d) ∨ ∃ q, x = some (.v (.int q n)) ∧ v = some (.int q n) := by
  cases x with
  | none =>
    cases v with
    | none => simp only [ioptAV, Option.some.injEq] at h; exact .inl ⟨rfl, rfl, h.symm⟩
    | some _ => exact hc.elim
  | some x =>
    cases v with
    | none => exact hc.elim
    | some v =>
      cases x <;> try (simp [ioptAV] at h; done)
      case v q =>
        cases q <;> simp only [ioptAV, Option.some.injEq] at h <;> try (cases h; done)
        case int kk m =>
          subst h
          have hc' : Conc G w (.v (.int kk m)) v := hc
          cases hc'
          exact .inr ⟨kk, rfl, rfl⟩

theorem bound_run {P : Program} {w : World} (q : IntKind) (n : Int) (y : Nat) (c : BoundsCode) (h0 : 0 ≤ n) (h1 : n ≤ y) : (Instr.sliceBound (.int q n) y c).run P w = .ok n.toNat w :=
  run_sliceBound w q n y c h0 h1

theorem bounds_run {P : Program} {G : Ghost} {w : World} {lo hi : Option AV} {vlo vhi : Option Value} {l h : Int} (isS : Bool) (len cap : Nat) (hlen : len ≤ cap)
    (h1 : ConcO G w lo vlo) (h2 : ConcO G w hi vhi) (e1 : ioptAV lo 0 = some l) (e2 : ioptAV hi len = some h) (h0 : 0 ≤ l) (hlh : l ≤ h) (hh : h ≤ len) :
    (Instr.sliceBounds isS len cap vlo vhi none).run P w = .ok (l.toNat, h.toNat, cap) w := by
  rcases iopt_cases h1 e1 with ⟨rfl, rfl, rfl⟩ | ⟨q1, rfl, rfl⟩ <;> rcases iopt_cases h2 e2 with ⟨rfl, rfl, rfl⟩ | ⟨q2, rfl, rfl⟩
  · simp [Instr.sliceBounds]
  · simp [Instr.sliceBounds, bound_run q2 h cap _ (by omega) (by omega)]
  · simp [Instr.sliceBounds, bound_run q1 l len _ (by omega) (by omega)]
  · simp [Instr.sliceBounds, bound_run q2 h cap _ (by omega) (by omega), bound_run q1 l h.toNat _ (by omega) (by omega)]

theorem bounds_run_mx {P : Program} {G : Ghost} {w : World} {lo hi : Option AV} {vlo vhi : Option Value} {l h : Int} (isS : Bool) (len cap : Nat) (hlen : len ≤ cap)
    (h1 : ConcO G w lo vlo) (h2 : ConcO G w hi vhi) (e1 : ioptAV lo 0 = some l) (e2 : ioptAV hi len = some h) (h0 : 0 ≤ l) (hlh : l ≤ h) (hh : h ≤ len) (hs : hi.isSome = true) (q : IntKind) :
    (Instr.sliceBounds isS len cap vlo vhi (some (.int q h))).run P w = .ok (l.toNat, h.toNat, h.toNat) w := by
  rcases iopt_cases h2 e2 with ⟨rfl, rfl, rfl⟩ | ⟨q2, rfl, rfl⟩
  · cases hs
  · rcases iopt_cases h1 e1 with ⟨rfl, rfl, rfl⟩ | ⟨q1, rfl, rfl⟩
    · simp [Instr.sliceBounds, bound_run q h cap _ (by omega) (by omega), bound_run q2 h h.toNat _ (by omega) (by omega)]
    · simp [Instr.sliceBounds, bound_run q h cap _ (by omega) (by omega), bound_run q2 h h.toNat _ (by omega) (by omega), bound_run q1 l h.toNat _ (by omega) (by omega)]

theorem RowsAt.sub {w : World} {i1 imm : Nat → Nat → Prop} {b st sz : Nat} {rows : List (List D)} (h : RowsAt w i1 imm b st sz rows) (l n : Nat) :
    RowsAt w i1 imm b (st + l * sz) sz ((rows.take n).drop l) := by
  have key : ∀ (i : Nat) (r : List D), ((rows.take n).drop l)[i]? = some r → rows[l + i]? = some r := by
    intro i r hr
    rw [List.getElem?_drop, List.getElem?_take] at hr
    split at hr
    · exact hr
    · cases hr
  refine ⟨fun i r hr => h.1 _ r (key i r hr), fun i j r d hr hd => ?_⟩
  have := h.2 (l + i) j r d (key i r hr) hd
  rwa [show st + (l + i) * sz + j = st + l * sz + i * sz + j from by rw [Nat.add_mul]; omega] at this

theorem SlC.sub {w : World} {i1 imm : Nat → Nat → Prop} {rows : List (List D)} {a : Option Addr} {n c sz : Nat} (h : SlC w i1 imm rows (.slice a n c)) (hs : ∀ r ∈ rows, r.length = sz)
    (l hh m : Nat) (h1 : l ≤ hh) (h2 : hh ≤ rows.length) (hm : hh ≤ m) (hmc : m ≤ c) :
    SlC w i1 imm ((rows.take hh).drop l) (.slice (if m = l then a else a.map (·.add (l * sz))) (hh - l) (m - l)) := by
  obtain ⟨a', c', he, hn, hc, hor⟩ := h
  cases he
  have hlen : ((rows.take hh).drop l).length = hh - l := by simp; omega
  rw [← hlen]
  refine ⟨_, _, rfl, by rw [hlen]; omega, by omega, ?_⟩
  by_cases hz : hh = l
  · left
    apply List.eq_nil_of_length_eq_zero; omega
  · rcases hor with rfl | ⟨b, st, sz', rfl, hr⟩
    · left; simp
    · right
      have hsz : sz' = sz := by
        have hlt : 0 < rows.length := by omega
        have h3 := hr.1 0 _ (List.getElem?_eq_getElem hlt)
        rw [← h3]; exact hs _ (List.getElem_mem hlt)
      subst hsz
      refine ⟨b, st + l * sz', sz', ?_, hr.sub l hh⟩
      rw [if_neg (by omega)]
      simp [Addr.add_mk]

theorem im_of_not_own (G : Ghost) {t t' : Tk} (h : t.isOwn = false) (h' : t'.isOwn = false) : G.im t = G.im t' := by
  cases t <;> cases t' <;> first | rfl | (simp [Tk.isOwn] at h; done) | (simp [Tk.isOwn] at h'; done)

theorem TkOk.sub {G : Ghost} {rows : List (List D)} {a : Option Addr} {c sz : Nat} {t : Tk} (h : TkOk G rows.length (.slice a rows.length c) t) (l hh : Nat) (h1 : l ≤ hh) (h2 : hh ≤ rows.length) (hc : rows.length ≤ c) (_hs : 0 < sz ∨ True) :
    TkOk G ((rows.take hh).drop l).length (.slice (if c = l then a else a.map (·.add (l * sz))) (hh - l) (c - l)) t.sub := by
  have hlen : ((rows.take hh).drop l).length = hh - l := by simp; omega
  have same : hh - l = rows.length → (Value.slice (if c = l then a else a.map (·.add (l * sz))) (hh - l) (c - l)) = .slice a rows.length c := by
    intro he
    have hl : l = 0 := by omega
    subst hl
    have : hh = rows.length := by omega
    subst this
    split
    · rename_i h; simp
    · cases a <;> simp [Addr.add]
  cases t with
  | none => trivial
  | exact => trivial
  | own o =>
    rw [hlen]
    rcases h with ⟨l', k1, k2, k3⟩ | ⟨b, l', c', sz', ex, k1, k2, k3⟩
    · refine .inl ⟨l', k1, by omega, fun he => ?_⟩
      rw [same (by omega)]
      obtain ⟨a', ha'⟩ := k3 (by omega)
      rw [ha', show hh - l = rows.length from by omega]
      exact ⟨a', rfl⟩
    · refine .inr ⟨b, l', c', sz', ex, k1, by omega, fun he => ?_⟩
      rw [same (by omega)]
      exact k3 (by omega)

theorem slice_sound {P : Program} {G : Ghost} {w : World} {t : TypeId} {x : AV} {lo hi mx : Option AV} {v : Value} {vlo vhi vmx : Option Value} {k : AV → Prop}
    (h : sliceAV P t x lo hi mx k) (hx : Conc G w x v) (hlo : ConcO G w lo vlo) (hhi : ConcO G w hi vhi) (hmx : ConcO G w mx vmx) :
    ∃ r y, (Instr.sliceAt t v vlo vhi vmx).run P w = .ok r w ∧ Conc G w y r ∧ k y := by
  unfold sliceAV at h
  cases hti : ti P t with
  | none => simp [hti] at h
  | some i =>
    simp only [hti] at h
    have hu := ti_und hti w
    split at h
    · -- strings
      rename_i s hd
      rw [hd] at hu
      cases hx
      split at h
      · rename_i l hh e1 e2
        obtain ⟨h0, h1, h2, hk⟩ := h
        cases vmx with
        | some _ => exact hmx.elim
        | none =>
          refine ⟨_, _, ?_, .v _ rfl, hk⟩
          simp [Instr.sliceAt, Instr.slice, hu, bounds_run (P := P) false s.size s.size (Nat.le_refl _) hlo hhi e1 e2 h0 h1 h2]
      · exact h.elim
    · -- slices
      rename_i e rows tk hd
      rw [hd] at hu
      split at h
      · rename_i j l hh htj e1 e2
        obtain ⟨hs, h0, h1, h2, hk⟩ := h
        cases hx with
        | sl _ _ _ hdc htk =>
          obtain ⟨a, c, rfl, hn, hc, hor⟩ := hdc
          have hdc : SlC w (G.im tk) G.imm rows (.slice a rows.length c) := ⟨a, c, rfl, hn, hc, hor⟩
          split at hk
          · cases vmx with
            | some _ => exact hmx.elim
            | none =>
              refine ⟨.slice (if c = l.toNat then a else a.map (·.add (l.toNat * j.size))) (hh.toNat - l.toNat) (c - l.toNat), _, ?_, .sl _ tk.sub _ ?_ (TkOk.sub (sz := j.size) htk l.toNat hh.toNat (by omega) (by omega) hn (.inr trivial)), hk⟩
              · simp [Instr.sliceAt, Instr.slice, hu, bounds_run (P := P) true rows.length c hn hlo hhi e1 e2 h0 h1 h2, ti_size htj]
              · have := SlC.sub hdc hs l.toNat hh.toNat c (by omega) (by omega) (by omega) (Nat.le_refl _)
                cases tk with
                | none => exact this
                | exact => exact this
                | own o => exact this
          · rename_i q m
            obtain ⟨rfl, hsome, hown, hk⟩ := hk
            cases vmx with
            | none => exact hmx.elim
            | some vm =>
              have hmx' : Conc G w (.v (.int q m)) vm := hmx
              cases hmx'
              refine ⟨.slice (if m.toNat = l.toNat then a else a.map (·.add (l.toNat * j.size))) (m.toNat - l.toNat) (m.toNat - l.toNat), _, ?_, .sl _ .exact _ ?_ ?_, hk⟩
              · simp [Instr.sliceAt, Instr.slice, hu, bounds_run_mx (P := P) true rows.length c hn hlo hhi e1 e2 h0 h1 h2 hsome q, ti_size htj]
              · have := SlC.sub hdc hs l.toNat m.toNat m.toNat (by omega) (by omega) (Nat.le_refl _) (by omega)
                by_cases ho : tk.isOwn = true
                · have hml := hown ho
                  subst hml
                  have h0' : ((rows.take m.toNat).drop m.toNat) = [] := by apply List.eq_nil_of_length_eq_zero; simp
                  rw [h0'] at this ⊢
                  rw [Nat.sub_self] at this ⊢
                  exact SlC.nil _ _ (by simp [maxLen])
                · rw [im_of_not_own G (t := .exact) (t' := tk) rfl (by simpa using ho)]
                  exact this
              · have hl : ((rows.take m.toNat).drop l.toNat).length = m.toNat - l.toNat := by simp; omega
                rw [hl]; exact ⟨_, rfl⟩
          · exact hk.elim
      · exact h.elim
    · -- nil
      rename_i e hd
      rw [hd] at hu
      cases hx
      split at h
      · rename_i j l hh m htj e1 e2 e3
        obtain ⟨rfl, rfl, rfl, himp, hk⟩ := h
        have hsz := ti_size htj w
        refine ⟨_, _, ?_, .v _ rfl, hk⟩
        rcases iopt_cases hlo e1 with ⟨rfl, rfl, _⟩ | ⟨q1, rfl, rfl⟩ <;> rcases iopt_cases hhi e2 with ⟨rfl, rfl, _⟩ | ⟨q2, rfl, rfl⟩ <;> rcases iopt_cases hmx e3 with ⟨rfl, rfl, _⟩ | ⟨q3, rfl, rfl⟩ <;>
          first
          | (simp at himp; done)
          | (simp [Instr.sliceAt, Instr.slice, hu, Instr.sliceBounds, Instr.sliceBound, asIntOf, hsz]; done)
      · exact h.elim
    · -- arrays
      rename_i n e o off hd
      rw [hd] at hu
      split at h
      · rename_i j l hh htj e1 e2
        obtain ⟨h0, h1, h2, h3, hk⟩ := h
        cases vmx with
        | some _ => exact hmx.elim
        | none =>
          cases hx with
          | ptr _ _ b hb =>
            by_cases hne : n = l.toNat
            · have hz : (hh - l).toNat = 0 := by omega
              rw [hz] at hk
              refine ⟨.slice (some ⟨b, off, none⟩) 0 (n - l.toNat), _, ?_, .bsl0 o _ _ _ (by omega), hk⟩
              simp [Instr.sliceAt, hu, Instr.sureAddr, bounds_run (P := P) false n n (Nat.le_refl _) hlo hhi e1 e2 h0 h1 h2, ti_size htj, ← hne]
              omega
            · refine ⟨.slice (some ⟨b, off + l.toNat * j.size, none⟩) (hh - l).toNat (n - l.toNat), _, ?_, .bsl o _ _ _ b hb (by omega) (by omega), hk⟩
              simp [Instr.sliceAt, hu, Instr.sureAddr, bounds_run (P := P) false n n (Nat.le_refl _) hlo hhi e1 e2 h0 h1 h2, ti_size htj, hne, Addr.add_mk]
              omega
      · exact h.elim
    · rename_i e o off len hd
      rw [hd] at hu
      split at h
      · rename_i j l hh htj e1 e2
        obtain ⟨h0, h1, h2, hk⟩ := h
        cases vmx with
        | some _ => exact hmx.elim
        | none =>
          cases hx with
          | bsl0 _ _ cap a h2' =>
            have hl0 : l = 0 := by omega
            have hh0 : hh = 0 := by omega
            subst hl0; subst hh0
            refine ⟨.slice (if cap = 0 then a else a.map (·.add (0 * j.size))) 0 cap, _, ?_, .bsl0 o _ _ _ h2', hk⟩
            simp [Instr.sliceAt, Instr.slice, hu, bounds_run (P := P) true 0 cap (Nat.zero_le _) hlo hhi e1 e2 h0 h1 h2, ti_size htj]
          | bsl _ _ _ cap b hb k1 k2 =>
            by_cases hne : cap = l.toNat
            · have hz : (hh - l).toNat = 0 := by omega
              rw [hz] at hk
              refine ⟨.slice (some ⟨b, off, none⟩) 0 (cap - l.toNat), _, ?_, .bsl0 o _ _ _ (by omega), hk⟩
              simp [Instr.sliceAt, Instr.slice, hu, bounds_run (P := P) true len cap k1 hlo hhi e1 e2 h0 h1 h2, ti_size htj, ← hne]
              omega
            · refine ⟨.slice (some ⟨b, off + l.toNat * j.size, none⟩) (hh - l).toNat (cap - l.toNat), _, ?_, .bsl o _ _ _ b hb (by omega) (by omega), hk⟩
              simp [Instr.sliceAt, Instr.slice, hu, bounds_run (P := P) true len cap k1 hlo hhi e1 e2 h0 h1 h2, ti_size htj, hne, Addr.add_mk]
              omega
      · exact h.elim
    · exact h.elim

end Go.Proofs.Ytickejlolpoboaa.AM
