/- Addresses of fields and elements; parts of values; slices of slices and strings. -/
import Derived.Test.YtickejlolpoboaaAm4
set_option linter.all false
namespace Go.Proofs.Ytickejlolpoboaa.AM
open Go

def fieldOf (i : TI) (f : Nat) : Option Field := match i.desc with | .struct fs => fs[f]? | _ => none

def fieldAddrAV (P : Program) (t : TypeId) (f : Nat) (x : AV) (k : AV → Prop) : Prop :=
  match ti P t with
  | some i =>
    match fieldOf i f with
    | some fd =>
      match ti P fd.type with
      | some j => j.size ≠ 0 ∧ (match x with
        | .ptr o off => k (.ptr o (off + fd.offset))
        | .ep rows r off tk => k (.ep rows r (off + fd.offset) tk)
        | _ => False)
      | none => False
    | none => False
  | none => False

theorem Addr.add_mk (b o n : Nat) : (⟨b, o, none⟩ : Addr).add n = ⟨b, o + n, none⟩ := Addr.add_lit b o n

theorem fieldAddr_sound {P : Program} {G : Ghost} {w : World} {t : TypeId} {f : Nat} {x : AV} {v : Value} {k : AV → Prop}
    (h : fieldAddrAV P t f x k) (hx : Conc G w x v) : ∃ r y, (Instr.fieldAt t v f).run P w = .ok r w ∧ Conc G w y r ∧ k y := by
  unfold fieldAddrAV at h
  cases hti : ti P t with
  | none => simp [hti] at h
  | some i =>
    simp only [hti] at h
    cases hf : fieldOf i f with
    | none => simp [hf] at h
    | some fd =>
      simp only [hf] at h
      have hdesc : ∃ fs, i.desc = .struct fs ∧ fs[f]? = some fd := by
        unfold fieldOf at hf
        split at hf
        · rename_i fs hfs; exact ⟨fs, hfs, hf⟩
        · cases hf
      obtain ⟨fs, hfs, hfd⟩ := hdesc
      cases htj : ti P fd.type with
      | none => simp [htj] at h
      | some j =>
        simp only [htj] at h
        obtain ⟨hj, h⟩ := h
        have hu : (underlying t).run P w = .ok (.struct fs) w := by rw [ti_und hti, hfs]
        have hp : ∀ a : Addr, (fieldPlace a fd).run P w = .ok (a.add fd.offset) w := by
          intro a
          simp [fieldPlace, ti_size htj, hj]
        cases x <;> try exact h.elim
        case ptr o off =>
          cases hx with
          | ptr _ _ b hb =>
            refine ⟨.pointer (some ⟨b, off + fd.offset, none⟩), _, ?_, .ptr o _ b hb, h⟩
            simp [Instr.fieldAt, hu, hfd, Instr.sureAddr, hp, Addr.add_mk]
        case ep rows r off tk =>
          cases hx with
          | ep _ _ _ _ b st sz hr =>
            refine ⟨.pointer (some ⟨b, st + r * sz + (off + fd.offset), none⟩), _, ?_, .ep rows r _ tk b st sz hr, h⟩
            simp [Instr.fieldAt, hu, hfd, Instr.sureAddr, hp, Addr.add_mk, Nat.add_assoc]

def indexAddrAV (P : Program) (t : TypeId) (x ix : AV) (k : AV → Prop) : Prop :=
  match ti P t with
  | some i =>
    match ix with
    | .v (.int _ n) =>
      match i.desc with
      | .slice e =>
        match ti P e with
        | some j =>
          match x with
          | .sl rows tk => 0 ≤ n ∧ n < rows.length ∧ (rows.getD n.toNat []).length = j.size ∧ k (.ep rows n.toNat 0 tk)
          | .bsl o off len => 0 ≤ n ∧ n < len ∧ k (.ptr o (off + n.toNat * j.size))
          | _ => False
        | none => False
      | .array len e =>
        match ti P e with
        | some j =>
          match x with
          | .ptr o off => 0 ≤ n ∧ n < len ∧ k (.ptr o (off + n.toNat * j.size))
          | .ep rows r off tk => 0 ≤ n ∧ n < len ∧ k (.ep rows r (off + n.toNat * j.size) tk)
          | _ => False
        | none => False
      | _ => False
    | _ => False
  | none => False

theorem indexAddr_sound {P : Program} {G : Ghost} {w : World} {t : TypeId} {x ix : AV} {v vi : Value} {k : AV → Prop}
    (h : indexAddrAV P t x ix k) (hx : Conc G w x v) (hi : Conc G w ix vi) : ∃ r y, (Instr.indexAt t v vi).run P w = .ok r w ∧ Conc G w y r ∧ k y := by
  unfold indexAddrAV at h
  cases hti : ti P t with
  | none => simp [hti] at h
  | some i =>
    simp only [hti] at h
    cases ix <;> try exact h.elim
    case v q =>
    cases q <;> try exact h.elim
    case int kk n =>
    cases hi
    simp only at h
    have hu := ti_und hti w
    cases hd : i.desc <;> simp only [hd] at h <;> try exact h.elim
    case slice e =>
      rw [hd] at hu
      cases hte : ti P e with
      | none => simp [hte] at h
      | some j =>
        simp only [hte] at h
        cases x <;> try exact h.elim
        case sl rows tk =>
          obtain ⟨h0, h1, hj, h⟩ := h
          cases hx with
          | sl _ _ _ hdc _ =>
            obtain ⟨a, c, rfl, hn, hc, hor⟩ := hdc
            rcases hor with rfl | ⟨b, st, sz, rfl, hr⟩
            · simp at h1; omega
            · have hlt : n.toNat < rows.length := by omega
              have hrl := hr.1 n.toNat _ (List.getElem?_eq_getElem hlt)
              have hj : j.size = sz := by
                rw [← hj, ← hrl]; simp [List.getD_eq_getElem?_getD, List.getElem?_eq_getElem hlt]
              refine ⟨.pointer (some ⟨b, st + n.toNat * sz + 0, none⟩), _, ?_, .ep rows n.toNat 0 tk b st sz hr, h⟩
              simp [Instr.indexAt, hu, asIntOf, h0, h1, ti_size hte, hj, Addr.add_mk]
        case bsl o off len =>
          obtain ⟨h0, h1, h⟩ := h
          cases hx with
          | bsl0 _ _ cap a h2 => simp at h1; omega
          | bsl _ _ _ cap b hb _ _ =>
            refine ⟨.pointer (some ⟨b, off + n.toNat * j.size, none⟩), _, ?_, .ptr o _ b hb, h⟩
            simp [Instr.indexAt, hu, asIntOf, h0, h1, ti_size hte, Addr.add_mk]
    case array len e =>
      rw [hd] at hu
      cases hte : ti P e with
      | none => simp [hte] at h
      | some j =>
        simp only [hte] at h
        cases x <;> try exact h.elim
        case ptr o off =>
          obtain ⟨h0, h1, h⟩ := h
          cases hx with
          | ptr _ _ b hb =>
            refine ⟨.pointer (some ⟨b, off + n.toNat * j.size, none⟩), _, ?_, .ptr o _ b hb, h⟩
            simp [Instr.indexAt, hu, asIntOf, h0, h1, ti_size hte, Addr.add_mk, Instr.sureAddr]
        case ep rows r off tk =>
          obtain ⟨h0, h1, h⟩ := h
          cases hx with
          | ep _ _ _ _ b st sz hr =>
            refine ⟨.pointer (some ⟨b, st + r * sz + (off + n.toNat * j.size), none⟩), _, ?_, .ep rows r _ tk b st sz hr, h⟩
            simp [Instr.indexAt, hu, asIntOf, h0, h1, ti_size hte, Addr.add_mk, Instr.sureAddr, Nat.add_assoc]

/-- A part of a value's cells. -/
def partAV (j : TI) (cs : List AV) (off : Nat) (k : AV → Prop) : Prop :=
  off + j.size ≤ cs.length ∧ (if j.isAgg then k (.agg ((cs.drop off).take j.size)) else 0 < j.size ∧ k (cs.getD off .any))

theorem part_sound {P : Program} {G : Ghost} {w : World} {t : TypeId} {j : TI} (ht : ti P t = some j) {cs : List AV} {vs : List Value} {off : Nat} {k : AV → Prop}
    (h : partAV j cs off k) (hl : vs.length = cs.length) (h1 : ∀ (i : Nat) (v : Value), vs[i]? = some v → v.oneCell' = true)
    (hc : ∀ (i : Nat) (c : AV) (v : Value), cs[i]? = some c → vs[i]? = some v → Conc G w c v) :
    ∃ r y, (part t vs.toArray off).run P w = .ok r w ∧ Conc G w y r ∧ k y := by
  obtain ⟨hle, h⟩ := h
  simp only [part, Sem.run_bind, ti_agg ht, Result.andThen_ok, Sem.run_ite]
  by_cases ha : j.isAgg = true
  · simp only [ha, if_true] at h ⊢
    refine ⟨.agg ((vs.drop off).take j.size).toArray, _, ?_, .agg _ _ (by simp; omega) ?_ ?_, h⟩
    · simp [ti_size ht, List.extract_eq_take_drop]
    · intro i v hv
      rw [List.getElem?_take] at hv
      split at hv
      · rw [List.getElem?_drop] at hv; exact h1 _ _ hv
      · cases hv
    · intro i c v hcc hv
      rw [List.getElem?_take] at hv hcc
      split at hv
      · rename_i hlt
        rw [if_pos hlt, List.getElem?_drop] at hcc
        rw [List.getElem?_drop] at hv
        exact hc _ _ _ hcc hv
      · cases hv
  · simp only [ha, Bool.false_eq_true, if_false] at h ⊢
    obtain ⟨h0, h⟩ := h
    have ho : off < cs.length := by omega
    have ho' : off < vs.length := by omega
    refine ⟨vs[off], cs[off], by simp [ho'], hc off _ _ (List.getElem?_eq_getElem ho) (List.getElem?_eq_getElem ho'), ?_⟩
    simpa [List.getD_eq_getElem?_getD, List.getElem?_eq_getElem ho] using h

def fieldAV (P : Program) (t : TypeId) (f : Nat) (x : AV) (k : AV → Prop) : Prop :=
  match ti P t with
  | some i =>
    match fieldOf i f with
    | some fd =>
      match ti P fd.type with
      | some j => (match x with | .agg cs => partAV j cs fd.offset k | _ => False)
      | none => False
    | none => False
  | none => False

theorem field_sound {P : Program} {G : Ghost} {w : World} {t : TypeId} {f : Nat} {x : AV} {v : Value} {k : AV → Prop}
    (h : fieldAV P t f x k) (hx : Conc G w x v) : ∃ r y, (Instr.field t v f).run P w = .ok r w ∧ Conc G w y r ∧ k y := by
  unfold fieldAV at h
  cases hti : ti P t with
  | none => simp [hti] at h
  | some i =>
    simp only [hti] at h
    cases hf : fieldOf i f with
    | none => simp [hf] at h
    | some fd =>
      simp only [hf] at h
      have hdesc : ∃ fs, i.desc = .struct fs ∧ fs[f]? = some fd := by
        unfold fieldOf at hf
        split at hf
        · rename_i fs hfs; exact ⟨fs, hfs, hf⟩
        · cases hf
      obtain ⟨fs, hfs, hfd⟩ := hdesc
      cases htj : ti P fd.type with
      | none => simp [htj] at h
      | some j =>
        simp only [htj] at h
        have hu : (underlying t).run P w = .ok (.struct fs) w := by rw [ti_und hti, hfs]
        cases x <;> try exact h.elim
        case agg cs =>
          cases hx with
          | agg _ vs hl h1 hc =>
            obtain ⟨r, y, hr, hy, hk⟩ := part_sound htj h hl h1 hc
            exact ⟨r, y, by simp [Instr.field, hu, hfd, asAgg, hr], hy, hk⟩

/-- An element of an array value, an octet of a string. -/
def indexAV (P : Program) (t : TypeId) (x ix : AV) (k : AV → Prop) : Prop :=
  match ti P t with
  | some i =>
    match ix with
    | .v (.int _ n) =>
      match i.desc with
      | .string => (match x with | .v (.string s) => 0 ≤ n ∧ n < s.size ∧ k (.v (.int .u8 (s.get! n.toNat).toNat)) | _ => False)
      | .array len e =>
        match ti P e with
        | some j => (match x with | .agg cs => 0 ≤ n ∧ n < len ∧ partAV j cs (n.toNat * j.size) k | _ => False)
        | none => False
      | _ => False
    | _ => False
  | none => False

theorem get!_eq (s : ByteArray) (i : Nat) (h : i < s.size) : s.get! i = s[i] := by
  show s.data[i]! = s.data[i]
  rw [getElem!_pos s.data i h]

theorem index_sound {P : Program} {G : Ghost} {w : World} {t : TypeId} {x ix : AV} {v vi : Value} {k : AV → Prop}
    (h : indexAV P t x ix k) (hx : Conc G w x v) (hi : Conc G w ix vi) : ∃ r y, (Instr.index t v vi).run P w = .ok r w ∧ Conc G w y r ∧ k y := by
  unfold indexAV at h
  cases hti : ti P t with
  | none => simp [hti] at h
  | some i =>
    simp only [hti] at h
    cases ix <;> try exact h.elim
    case v q =>
    cases q <;> try exact h.elim
    case int kk n =>
    cases hi
    simp only at h
    have hu := ti_und hti w
    cases hd : i.desc <;> simp only [hd] at h <;> try exact h.elim
    case string =>
      rw [hd] at hu
      cases x <;> try exact h.elim
      case v q =>
      cases q <;> try exact h.elim
      case string s =>
      cases hx
      obtain ⟨h0, h1, h⟩ := h
      have hlt : n.toNat < s.size := by omega
      refine ⟨_, _, ?_, .v _ rfl, h⟩
      simp only [Instr.index, Sem.run_bind, asIntOf, Sem.run_pure, Result.andThen_ok, hu, h0, if_true, getElem?_pos s n.toNat hlt, get!_eq s _ hlt]
    case array len e =>
      rw [hd] at hu
      cases hte : ti P e with
      | none => simp [hte] at h
      | some j =>
        simp only [hte] at h
        cases x <;> try exact h.elim
        case agg cs =>
          obtain ⟨h0, h1, h⟩ := h
          cases hx with
          | agg _ vs hl hone hc =>
            obtain ⟨r, y, hr, hy, hk⟩ := part_sound hte h hl hone hc
            exact ⟨r, y, by simp [Instr.index, hu, asIntOf, h0, h1, ti_size hte, hr], hy, hk⟩

end Go.Proofs.Ytickejlolpoboaa.AM
