/- New slices; least and greatest; contracts of functions. -/
import Derived.Test.YtickejlolpoboaaAm13
set_option linter.all false
namespace Go.Proofs.Ytickejlolpoboaa.AM
open Go

theorem toD_conc {G : Ghost} {w : World} {x : AV} {d : D} {v : Value} (h : x.toD = some d) (hc : Conc G w x v) : DConc w G.imm d v := by
  unfold AV.toD at h
  split at h
  · cases h; cases hc; exact .nil none 0 (by simp [maxLen])
  · cases h
    cases hc with
    | v _ hx => exact .v _ hx
  · cases h
    cases hc with
    | sl _ _ _ hd _ => exact DConc.sl_iff.2 hd
  · cases h
    cases hc with
    | sl _ _ _ hd _ => exact DConc.sl_iff.2 hd
  · cases h

def chunks (sz : Nat) (out : List AV) : Nat → Option (List (List D))
  | 0 => some []
  | n + 1 =>
    match AV.toDs (out.take sz), chunks sz (out.drop sz) n with
    | some r, some rs => some (r :: rs)
    | _, _ => none

theorem toDs_spec : ∀ {xs : List AV} {ds : List D}, AV.toDs xs = some ds → ds.length = xs.length ∧ ∀ (i : Nat) (x : AV) (d : D), xs[i]? = some x → ds[i]? = some d → x.toD = some d
  | [], ds, h => by cases h; exact ⟨rfl, fun i x d hx => by simp at hx⟩
  | x :: xs, ds, h => by
    simp only [AV.toDs] at h
    cases h1 : x.toD with
    | none => simp [h1] at h
    | some d =>
      cases h2 : AV.toDs xs with
      | none => simp [h1, h2] at h
      | some ds' =>
        simp only [h1, h2, Option.some.injEq] at h
        subst h
        obtain ⟨e1, e2⟩ := toDs_spec h2
        refine ⟨by simp [e1], fun i y d' hy hd => ?_⟩
        cases i with
        | zero => simp at hy hd; subst hy; subst hd; exact h1
        | succ i => exact e2 i y d' (by simpa using hy) (by simpa using hd)

theorem chunks_flat {G : Ghost} {w : World} {sz : Nat} : ∀ (n : Nat) {out : List AV} {vs : List Value} {rows : List (List D)}, chunks sz out n = some rows → out.length = n * sz → ConcL G w out vs → OneL vs →
    rows.length = n ∧ (∀ r ∈ rows, r.length = sz) ∧ Flat w G.imm sz rows vs
  | 0, out, vs, rows, h, hl, hc, _ => by
    cases h
    have : vs = [] := List.eq_nil_of_length_eq_zero (by rw [hc.1, hl]; simp)
    subst this
    exact ⟨rfl, by simp, Flat.nil _ _ _⟩
  | n + 1, out, vs, rows, h, hl, hc, h1 => by
    simp only [chunks] at h
    cases hr : AV.toDs (out.take sz) with
    | none => simp [hr] at h
    | some r =>
      cases hrs : chunks sz (out.drop sz) n with
      | none => simp [hr, hrs] at h
      | some rs =>
        simp only [hr, hrs, Option.some.injEq] at h
        subst h
        have hmul : (n + 1) * sz = n * sz + sz := by rw [Nat.add_mul, Nat.one_mul]
        obtain ⟨e1, e2⟩ := toDs_spec hr
        have hrl : r.length = sz := by rw [e1]; simp; omega
        obtain ⟨k1, k2, k3⟩ := chunks_flat n (vs := vs.drop sz) hrs (by simp; omega)
          ⟨by simp [hc.1], fun i x v hx hv => hc.2 (sz + i) x v (by simpa using hx) (by simpa using hv)⟩ (fun i u hu => h1 (sz + i) u (by simpa using hu))
        have hfirst : Flat w G.imm sz [r] (vs.take sz) := by
          refine ⟨by simp [hc.1]; omega, fun i u hu => ?_, fun i j r' d hr' hd => ?_⟩
          · rw [List.getElem?_take] at hu
            split at hu
            · exact h1 i u hu
            · cases hu
          · cases i with
            | zero =>
              simp at hr'; subst hr'
              have hj : j < sz := by
                rw [← hrl]
                rcases Nat.lt_or_ge j r.length with hl | hl
                · exact hl
                · rw [List.getElem?_eq_none hl] at hd; cases hd
              have hjo : j < out.length := by omega
              have hjv : j < vs.length := by rw [hc.1]; exact hjo
              have hx : (out.take sz)[j]? = some out[j] := by rw [List.getElem?_take, if_pos hj]; exact List.getElem?_eq_getElem hjo
              refine ⟨vs[j], ?_, toD_conc (e2 j _ d hx hd) (hc.2 j _ _ (List.getElem?_eq_getElem hjo) (List.getElem?_eq_getElem hjv))⟩
              rw [Nat.zero_mul, Nat.zero_add, List.getElem?_take, if_pos hj]; exact List.getElem?_eq_getElem hjv
            | succ i => simp at hr'
        refine ⟨by simp [k1], ?_, ?_⟩
        · intro r' hr'
          rcases List.mem_cons.1 hr' with rfl | h'
          · exact hrl
          · exact k2 r' h'
        · have := Flat.append (rows := [r]) (by intro r' hr'; simp at hr'; subst hr'; exact hrl) hfirst k3
          simpa using this

def zrep (zero : List Value) (sz n : Nat) : List AV := (List.range (n * sz)).map fun q => .v (zero.getD (q % sz) default)

def buildSliceAV (P : Program) (t : TypeId) (len : Nat) (parts : List (Nat × AV)) (k : AV → Prop) : Prop :=
  match ti P t with
  | some i =>
    match i.desc with
    | .slice e =>
      match ti P e with
      | some j =>
        0 < j.size ∧ len * j.size ≤ 16777216 ∧
        (match fillAV (fun q => some (q * j.size, j.size)) (zrep j.zero j.size len) parts with
        | some out => (match chunks j.size out len with | some rows => k (.sl rows .exact) | none => False)
        | none => False)
      | none => False
    | _ => False
  | none => False

theorem fillAV_length {place : Nat → Option (Nat × Nat)} : ∀ {parts : List (Nat × AV)} {cs out : List AV}, fillAV place cs parts = some out → out.length = cs.length
  | [], cs, out, h => by cases h; rfl
  | (j, x) :: rest, cs, out, h => by
    simp only [fillAV] at h
    split at h
    · split at h
      · rw [fillAV_length h, setFrom_length]
      · cases h
    · cases h

theorem zrep_conc {G : Ghost} {w : World} {P : Program} {t : TypeId} {j : TI} (hj : ti P t = some j) (hs : 0 < j.size) (n : Nat) :
    ConcL G w (zrep j.zero j.size n) ((List.range (n * j.size)).map fun q => j.zero.getD (q % j.size) default) ∧ OneL ((List.range (n * j.size)).map fun q => j.zero.getD (q % j.size) default) := by
  obtain ⟨_, f, z, _, _, _, _, _, hzl, ho⟩ := ti_spec hj
  have hone : ∀ q, (j.zero.getD (q % j.size) default).oneCell' = true := by
    intro q
    have hlt : q % j.size < j.zero.length := by rw [hzl]; exact Nat.mod_lt _ hs
    rw [List.getD_eq_getElem?_getD, List.getElem?_eq_getElem hlt]
    exact ho _ (List.getElem_mem hlt)
  refine ⟨⟨by simp [zrep], fun q x v hx hv => ?_⟩, fun q u hu => ?_⟩
  · simp only [zrep, List.getElem?_map] at hx hv
    cases hr : (List.range (n * j.size))[q]? with
    | none => simp [hr] at hx
    | some q' =>
      simp only [hr, Option.map_some, Option.some.injEq] at hx hv
      subst hx; subst hv
      exact .v _ (hone q')
  · simp only [List.getElem?_map] at hu
    cases hr : (List.range (n * j.size))[q]? with
    | none => simp [hr] at hu
    | some q' =>
      simp only [hr, Option.map_some, Option.some.injEq] at hu
      subst hu
      exact hone q'

theorem range_mod_eq (z : Array Value) (l : List Value) (hz : z = l.toArray) (sz : Nat) (n : Nat) : (Array.range n).map (fun q => z[q % sz]!) = ((List.range n).map fun q => l.getD (q % sz) default).toArray := by
  subst hz
  apply Array.ext'
  simp [List.getD_eq_getElem?_getD]

theorem buildSlice_sound {P : Program} {G : Ghost} {objs : List Obj} {w : World} {t : TypeId} {len : Nat} {parts : List (Nat × AV)} {vparts : List (Nat × Value)} {k : AV → Prop}
    (h : buildSliceAV P t len parts k) (hm : Mem G objs w) (hl : parts.length = vparts.length)
    (hp : ∀ (i : Nat) (p : Nat × AV) (q : Nat × Value), parts[i]? = some p → vparts[i]? = some q → p.1 = q.1 ∧ Conc G w p.2 q.2) :
    ∃ r y G' w', (Instr.buildSlice t len vparts.toArray).run P w = .ok r w' ∧ Step G w G' w' ∧ Mem G' objs w' ∧ Conc G' w' y r ∧ k y := by
  unfold buildSliceAV at h
  split at h
  · rename_i i hi
    split at h
    · rename_i e hd
      split at h
      · rename_i j hj
        obtain ⟨hs0, hbig, h⟩ := h
        split at h
        · rename_i out hout
          split at h
          · rename_i rows hrows
            have hu := ti_und hi w
            rw [hd] at hu
            obtain ⟨z, hz, hzc⟩ := ti_zero hj w
            obtain ⟨z1, z2⟩ := zrep_conc (G := G) (w := w) hj hs0 len
            obtain ⟨res, hr, hr2, hr3⟩ := fill_sound hl hp z1 z2 hout
            have hol : out.length = len * j.size := by rw [fillAV_length hout]; simp [zrep]
            obtain ⟨k1, k2, k3⟩ := chunks_flat len hrows hol hr2 hr3
            obtain ⟨s1, s2⟩ := More.step hm ((More.refl w).alloc (.cells res.toArray e)) (imm' := fun b off => G.imm b off ∨ (b = w.heap.size ∧ off < len * j.size)) (fun _ _ h => .inl h) (fun b off h => by
              rcases h with h | ⟨rfl, _⟩
              · exact .inl h
              · exact .inr ⟨Nat.le_refl _, by simp⟩)
            have hzl := (ti_spec hj).2
            refine ⟨.slice (some ⟨w.heap.size, 0, none⟩) len len, .sl rows .exact, _, _, ?_, s1, s2, ?_, h⟩
            · have hsz : j.zero.length = j.size := by obtain ⟨f, z', _, _, _, _, _, hh, _⟩ := hzl; exact hh
              have hzs : z.cells.size = j.size := by rw [hzc]; simp [hsz]
              have hbig' : ¬ (len * j.size > 2 ^ 24) := by omega
              simp only [Instr.buildSlice, Sem.run_bind, hu, Result.andThen_ok, ti_size hj, Sem.run_ite, if_neg hbig', Sem.run_pure]
              have hfill : Instr.fill (fun q => some (q * j.size, j.size)) ((Array.range (len * j.size)).map fun q => (if len * j.size = 0 then (#[] : Array Value) else z.cells)[q % (if len * j.size = 0 then (#[] : Array Value) else z.cells).size]!) vparts = some res.toArray := by
                rw [← hr]
                congr 1
                by_cases h0 : len * j.size = 0
                · simp [h0]
                · rw [if_neg h0, hzs]
                  exact range_mod_eq z.cells j.zero hzc j.size (len * j.size)
              by_cases h0 : len * j.size = 0
              · rw [if_pos h0] at hfill
                simp only [if_pos h0, Sem.run_pure, Result.andThen_ok, hfill]
                rfl
              · rw [if_neg h0] at hfill
                simp only [if_neg h0, Sem.run_bind, hz, Sem.run_pure, Result.andThen_ok, hfill]
                rfl
            · refine .sl rows .exact _ ?_ ⟨_, by rw [k1]⟩
              refine ⟨some ⟨w.heap.size, 0, none⟩, len, by rw [k1], by omega, ?_, .inr ⟨w.heap.size, 0, j.size, rfl, ?_⟩⟩
              · have : len ≤ len * j.size := Nat.le_mul_of_pos_right _ hs0
                simp only [maxLen]; omega
              · refine Flat.rowsAt k2 (k3.mono s1.ext.cell s1.ext.imm) ?_ ?_
                · intro q u hq
                  rw [cell_at (heap_alloc_new' w _), Nat.zero_add]
                  simpa using hq
                · intro q hq
                  rw [Nat.zero_add]
                  exact .inr ⟨rfl, by rw [← k1]; exact hq⟩
          · exact h.elim
        · exact h.elim
      · exact h.elim
    · exact h.elim
  · exact h.elim

def makeSliceAV (P : Program) (t : TypeId) (objs : List Obj) (l c : AV) (k : AV → List Obj → Prop) : Prop :=
  match ti P t, l, c with
  | some i, .v (.int _ n), .v (.int _ m) =>
    match i.desc with
    | .slice e =>
      match ti P e with
      | some j => 0 < j.size ∧ m = n ∧ 0 ≤ n ∧ n ≤ 9223372036854775807 ∧ n.toNat * j.bytes ≤ 281474976710656 ∧ k (.bsl objs.length 0 n.toNat) (objs ++ [.box (zrep j.zero j.size n.toNat)])
      | none => False
    | _ => False
  | _, _, _ => False

theorem makeSlice_sound {P : Program} {G : Ghost} {objs : List Obj} {w : World} {t : TypeId} {l c : AV} {vl vc : Value} {k : AV → List Obj → Prop}
    (h : makeSliceAV P t objs l c k) (hm : Mem G objs w) (hl : Conc G w l vl) (hc : Conc G w c vc) :
    ∃ r y objs' G' w', (Instr.makeSlice t vl vc).run P w = .ok r w' ∧ Step G w G' w' ∧ Mem G' objs' w' ∧ Conc G' w' y r ∧ k y objs' := by
  unfold makeSliceAV at h
  split at h
  · rename_i i q n q' m hi
    split at h
    · rename_i e hd
      split at h
      · rename_i j hj
        obtain ⟨hs0, rfl, h0, hmx, hb, hk⟩ := h
        cases hl; cases hc
        have hu := ti_und hi w
        rw [hd] at hu
        obtain ⟨_, f, z, hf, hz, hfs, hfb, hzc, hzl, _⟩ := ti_spec hj
        obtain ⟨z1, z2⟩ := zrep_conc (G := G) (w := w) hj hs0 m.toNat
        obtain ⟨G', s1, s2, s3⟩ := box_step hm z1 z2 e
        have hw : IntKind.i64.wrap m = m := IntWalk.i64_in m (by omega)
        refine ⟨.slice (some ⟨w.heap.size, 0, none⟩) m.toNat m.toNat, _, _, G', _, ?_, s1, s2, ?_, hk⟩
        · have hb' : ¬ ((j.bytes : Int) * m > 281474976710656) := by
            have hm' : ((m.toNat : Nat) : Int) = m := Int.toNat_of_nonneg h0
            have e1 : (j.bytes : Int) * m = ((m.toNat * j.bytes : Nat) : Int) := by rw [Int.natCast_mul, hm', Int.mul_comm]
            rw [e1]; omega
          have hn0 : ¬ (m < 0) := by omega
          have hmm : ¬ (m > m) := by omega
          have hzs : z.cells.size = j.size := by rw [hzc]; simp [hzl]
          have hrow := range_mod_eq z.cells j.zero hzc j.size (m.toNat * j.size)
          by_cases hz0 : m.toNat * j.size = 0
          · simp [Instr.makeSlice, hu, asInt, asIntOf, typeInfo, hf, hfb, hw, hb', hn0, hmm, sizeOf, hfs, hz0, newRow]
            exact congrArg (fun c => w.alloc (Go.Obj.cells c e)) (by apply Array.ext'; simp)
          · simp [Instr.makeSlice, hu, asInt, asIntOf, typeInfo, hf, hfb, hw, hb', hn0, hmm, sizeOf, hfs, hz0, newRow, zeroValue, hz, hzs, hrow]
        · cases s3 with
          | ptr _ _ b hbb => exact .bsl _ _ _ _ _ hbb (Nat.le_refl _) (by simp only [maxLen]; omega)
      · exact h.elim
    · exact h.elim
  · exact h.elim

end Go.Proofs.Ytickejlolpoboaa.AM
