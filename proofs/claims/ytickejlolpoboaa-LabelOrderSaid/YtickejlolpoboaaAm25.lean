/- What comes in, read as data, in abstract terms; and a law's row out of a function's contract. -/
import Derived.Test.YtickejlolpoboaaAm24
import Derived.ProofKit
import Derived.OpenShut
set_option linter.all false
namespace Go.Proofs.Ytickejlolpoboaa.AM
open Go Go.RowKit Go.WideShapes Go.ChangeShapes

/-- Bytes in text order: fields lie one behind the other. -/
def packed (P : Program) : Nat → List Field → Option Nat
  | n, [] => some n
  | n, f :: fs => if f.offset = n then packed P (n + P.cellsOf f.type) fs else none

/-- A type of plain data: no pointer, map or function in it. -/
def plainTy (P : Program) : Nat → TypeId → Bool
  | 0, _ => false
  | n + 1, t =>
    match P.underlying t with
    | some .bool => true
    | some (.int _) => true
    | some .string => true
    | some (.slice e) => decide (0 < P.cellsOf e) && plainTy P n e
    | some (.struct fs) => decide (packed P 0 fs.toList = some (P.cellsOf t)) && fs.toList.all fun f => plainTy P n f.type
    | some (.array m e) => decide (P.cellsOf t = m * P.cellsOf e) && plainTy P n e
    | _ => false

/-- Cells, each told by data, of one field behind the other. -/
def shFs (sh : TypeId → List D → Prop) : List Field → List D → Prop
  | [], ds => ds = []
  | f :: fs, ds => ∃ a b, ds = a ++ b ∧ sh f.type a ∧ shFs sh fs b
def shN (sh : List D → Prop) : Nat → List D → Prop
  | 0, ds => ds = []
  | n + 1, ds => ∃ a b, ds = a ++ b ∧ sh a ∧ shN sh n b

/-- What the cells of a type of plain data may hold. -/
def shD (P : Program) : Nat → TypeId → List D → Prop
  | 0, _, _ => False
  | n + 1, t, ds =>
    match P.underlying t with
    | some .bool => ∃ b, ds = [.v (.bool b)]
    | some (.int k) => ∃ i, ds = [.v (.int k i)] ∧ k.min ≤ i ∧ i ≤ k.max
    | some .string => ∃ s : ByteArray, ds = [.v (.string s)] ∧ s.size ≤ maxLen
    | some (.slice e) => ∃ rows, ds = [.sl rows] ∧ rows.length ≤ maxLen ∧ ∀ r ∈ rows, shD P n e r
    | some (.struct fs) => shFs (shD P n) fs.toList ds
    | some (.array m e) => shN (shD P n e) m ds
    | _ => False

section
variable {P : Program} {n : Nat} {t : TypeId} {ds : List D}
theorem shD_bool (hu : P.underlying t = some .bool) (h : shD P (n + 1) t ds) : ∃ b, ds = [.v (.bool b)] := by simpa only [shD, hu] using h
theorem shD_int {k : IntKind} (hu : P.underlying t = some (.int k)) (h : shD P (n + 1) t ds) : ∃ i, ds = [.v (.int k i)] ∧ k.min ≤ i ∧ i ≤ k.max := by simpa only [shD, hu] using h
theorem shD_str (hu : P.underlying t = some .string) (h : shD P (n + 1) t ds) : ∃ s : ByteArray, ds = [.v (.string s)] ∧ s.size ≤ maxLen := by simpa only [shD, hu] using h
theorem shD_sl {e : TypeId} (hu : P.underlying t = some (.slice e)) (h : shD P (n + 1) t ds) : ∃ rows, ds = [.sl rows] ∧ rows.length ≤ maxLen ∧ ∀ r ∈ rows, shD P n e r := by simpa only [shD, hu] using h
theorem shD_st {fs : Array Field} (hu : P.underlying t = some (.struct fs)) (h : shD P (n + 1) t ds) : shFs (shD P n) fs.toList ds := by simpa only [shD, hu] using h
theorem shD_arr {m : Nat} {e : TypeId} (hu : P.underlying t = some (.array m e)) (h : shD P (n + 1) t ds) : shN (shD P n e) m ds := by simpa only [shD, hu] using h
/-- Rows, each told, are what is encoded. -/
theorem rows_enc {α : Type} {enc : α → List D} {Q : List D → Prop} (hQ : ∀ r, Q r → ∃ a, r = enc a) : ∀ {rows : List (List D)}, (∀ r ∈ rows, Q r) → ∃ l : List α, rows = l.map enc
  | [], _ => ⟨[], rfl⟩
  | r :: rows, h => by
    obtain ⟨a, rfl⟩ := hQ r (h r List.mem_cons_self)
    obtain ⟨l, rfl⟩ := rows_enc hQ (rows := rows) (fun r hr => h r (List.mem_cons_of_mem _ hr))
    exact ⟨a :: l, rfl⟩
end

def oldImm (w : World) : Nat → Nat → Prop := fun b _ => b < w.heap.size
def Tells (w : World) (ds : List D) (cs : List Value) : Prop := ds.length = cs.length ∧ ∀ (i : Nat) (c : Value) (d : D), cs[i]? = some c → ds[i]? = some d → DConc w (oldImm w) d c

theorem Tells.append {w : World} {a b : List D} {cs ds : List Value} (h : Tells w a cs) (k : Tells w b ds) : Tells w (a ++ b) (cs ++ ds) := by
  refine ⟨by simp [h.1, k.1], fun i c d hc hd => ?_⟩
  rcases Nat.lt_or_ge i cs.length with hi | hi
  · rw [List.getElem?_append_left hi] at hc
    rw [List.getElem?_append_left (by rw [h.1]; exact hi)] at hd
    exact h.2 i c d hc hd
  · rw [List.getElem?_append_right hi] at hc
    rw [List.getElem?_append_right (by rw [h.1]; exact hi), h.1] at hd
    exact k.2 _ c d hc hd

theorem Tells.one {w : World} {d : D} {c : Value} (h : DConc w (oldImm w) d c) : Tells w [d] [c] := by
  refine ⟨rfl, fun i c' d' hc hd => ?_⟩
  cases i with
  | zero => cases hc; cases hd; exact h
  | succ i => simp at hc

theorem cells?_spec {w : World} {base : Nat} {a : Addr} {n : Nat} {cs : List Value} (h : w.cells? base a n = some cs) : cs.length = n ∧ ∀ i, i < n → w.cell? (a.add i) = cs[i]? := by
  unfold World.cells? at h
  split at h
  · have key : ∀ (l : List Nat) (cs : List Value), (l.mapM fun i => w.cell? (a.add i)) = some cs → cs.length = l.length ∧ ∀ (i j : Nat), l[i]? = some j → w.cell? (a.add j) = cs[i]? := by
      intro l
      induction l with
      | nil => intro cs h; simp at h; subst h; simp
      | cons x l ih =>
        intro cs h
        simp only [List.mapM_cons, Option.bind_eq_bind, Option.bind_eq_some_iff, Option.pure_def, Option.some.injEq] at h
        obtain ⟨c, hc, ds, hds, rfl⟩ := h
        obtain ⟨h1, h2⟩ := ih ds hds
        refine ⟨by simp [h1], fun i j hj => ?_⟩
        cases i with
        | zero => simp at hj; subst hj; simpa using hc
        | succ i => simp at hj; simpa using h2 i j hj
    obtain ⟨h1, h2⟩ := key _ _ h
    refine ⟨by simpa using h1, fun i hi => h2 i i (by simp [hi])⟩
  · cases h

theorem cell_lt {w : World} {a : Addr} {v : Value} (h : w.cell? a = some v) : a.block < w.heap.size := by
  rcases Nat.lt_or_ge a.block w.heap.size with hl | hl
  · exact hl
  · have : w.heap[a.block]? = none := Array.getElem?_eq_none hl
    simp [World.cell?, this] at h

section
variable {H : Type} {enc : TypeId × Value → H} {P : Program} {w : World} {base : Nat} {spare : Nat → Bool} {held : Bool}

theorem trod_plain : ∀ (n : Nat) (t : TypeId), plainTy P n t = true → ∀ (fuel : Nat) (cs : List Value) (x : DataW H × List MemPlace), DataW.trod enc P w base spare held fuel t cs = some x →
    ∃ ds, shD P n t ds ∧ Tells w ds cs
  | 0, _, h, _, _, _, _ => by cases h
  | n + 1, t, h, fuel, cs, x, hx => by
    unfold plainTy at h
    split at h
    · rename_i ht
      obtain ⟨b, rfl, _⟩ := DataW.trod_bool ht hx
      exact ⟨[.v (.bool b)], by simp only [shD, ht]; exact ⟨b, rfl⟩, .one (.v _ rfl)⟩
    · rename_i k ht
      obtain ⟨i, rfl, _, hw⟩ := DataW.trod_int ht hx
      simp only [Lit.wf, Bool.and_eq_true, decide_eq_true_eq] at hw
      exact ⟨[.v (.int k i)], by simp only [shD, ht]; exact ⟨i, rfl, hw.1, hw.2⟩, .one (.v _ rfl)⟩
    · rename_i ht
      obtain ⟨s, rfl, _, hs⟩ := DataW.trod_string ht hx
      exact ⟨[.v (.string s)], by simp only [shD, ht]; exact ⟨s, rfl, hs⟩, .one (.v _ rfl)⟩
    · rename_i e ht
      simp only [Bool.and_eq_true, decide_eq_true_eq] at h
      obtain ⟨h0, h1⟩ := h
      rcases DataW.trod_slice ht hx with ⟨rfl, _⟩ | ⟨a, len, cap, elems, rest, m, _, rfl, _, hb, hl, hm, hlen, hel, _, _⟩
      · exact ⟨[.sl []], by simp only [shD, ht]; exact ⟨[], rfl, Nat.zero_le _, by simp⟩, .one (.nil _ _ (Nat.zero_le _))⟩
      · have each : ∀ i, ∃ r cs', i < len → (w.cells? base (a.add (i * P.cellsOf e)) (P.cellsOf e) = some cs' ∧ shD P n e r ∧ Tells w r cs') := by
          intro i
          by_cases hi : i < len
          · have h2 := hel i hi
            rw [List.getElem?_eq_getElem (by omega), Option.bind_eq_some_iff] at h2
            obtain ⟨cs', h3, h4⟩ := h2
            obtain ⟨r, h5, h6⟩ := trod_plain n e h1 m cs' _ h4
            exact ⟨r, cs', fun _ => ⟨h3, h5, h6⟩⟩
          · exact ⟨[], [], fun h => absurd h hi⟩
        let rw_ : Nat → List D := fun i => Classical.choose (each i)
        let cw : Nat → List Value := fun i => Classical.choose (Classical.choose_spec (each i))
        have ew : ∀ i, i < len → (w.cells? base (a.add (i * P.cellsOf e)) (P.cellsOf e) = some (cw i) ∧ shD P n e (rw_ i) ∧ Tells w (rw_ i) (cw i)) := fun i => Classical.choose_spec (Classical.choose_spec (each i))
        let rows := (List.range len).map rw_
        have hrl : rows.length = len := by simp [rows]
        have hr : ∀ (i : Nat) (r : List D), rows[i]? = some r → i < len ∧ r = rw_ i := by
          intro i r hr
          have hi : i < len := by have := (List.getElem?_eq_some_iff.1 hr).1; rwa [hrl] at this
          refine ⟨hi, ?_⟩
          simp only [rows, List.getElem?_map, List.getElem?_range hi, Option.map_some, Option.some.injEq] at hr
          exact hr.symm
        refine ⟨[.sl rows], ?_, .one ?_⟩
        · simp only [shD, ht]
          refine ⟨rows, rfl, by omega, fun r hrm => ?_⟩
          obtain ⟨i, hi, rfl⟩ := List.mem_iff_getElem.1 hrm
          obtain ⟨h2, h3⟩ := hr i _ (List.getElem?_eq_getElem hi)
          rw [h3]; exact (ew i h2).2.1
        · rcases Nat.eq_zero_or_pos len with h00 | hpos
          · subst h00
            have : rows = [] := List.length_eq_zero_iff.1 hrl
            rw [this]
            exact .nil _ _ hm
          · have hspot : a = ⟨a.block, a.off, none⟩ := by
              obtain ⟨h2, h3, h4⟩ := ew 0 hpos
              obtain ⟨h5, h6⟩ := cells?_spec h2
              have h7 := h6 0 h0
              rw [List.getElem?_eq_getElem (by omega)] at h7
              simp only [Nat.zero_mul, Addr.add, if_true] at h7
              obtain ⟨b, o, sp⟩ := a
              unfold World.cell? at h7
              split at h7
              · cases sp
                · rfl
                · simp at h7
              · cases h7
            rw [hspot, ← hrl]
            have hcell : ∀ i j r d, rows[i]? = some r → r[j]? = some d → ∃ c, w.cell? ⟨a.block, a.off + i * P.cellsOf e + j, none⟩ = some c ∧ DConc w (oldImm w) d c := by
              intro i j r d hri hdj
              obtain ⟨hi, rfl⟩ := hr i r hri
              obtain ⟨h2, _, h3, h4⟩ := ew i hi
              obtain ⟨h5, h6⟩ := cells?_spec h2
              have hj : j < (rw_ i).length := (List.getElem?_eq_some_iff.1 hdj).1
              have hj2 : j < (cw i).length := by omega
              refine ⟨(cw i)[j], ?_, h4 j _ d (List.getElem?_eq_getElem hj2) hdj⟩
              have := h6 j (by omega)
              rw [List.getElem?_eq_getElem hj2] at this
              rw [← this]
              congr 1
              rw [hspot]
              rw [Addr.add_mk, Addr.add_mk]
            refine .sl (P.cellsOf e) rows a.block a.off cap (fun i j => (w.cell? ⟨a.block, a.off + i * P.cellsOf e + j, none⟩).getD undef) (by omega) hm ?_ ?_ ?_ ?_
            · intro i r hri
              obtain ⟨hi, rfl⟩ := hr i r hri
              obtain ⟨h2, _, h3, h4⟩ := ew i hi
              rw [h3]; exact (cells?_spec h2).1
            · intro i j r d hri hdj
              obtain ⟨c, hc, _⟩ := hcell i j r d hri hdj
              simp [hc]
            · intro i j r d hri hdj
              obtain ⟨c, hc, _⟩ := hcell i j r d hri hdj
              exact cell_lt (a := ⟨_, _, none⟩) hc
            · intro i j r d hri hdj
              obtain ⟨c, hc, hd⟩ := hcell i j r d hri hdj
              simpa [hc] using hd
    · rename_i fs ht
      simp only [Bool.and_eq_true, decide_eq_true_eq, List.all_eq_true] at h
      obtain ⟨hpk, hall⟩ := h
      obtain ⟨xs, m, _, _, hlen, hxl, hel⟩ := DataW.trod_struct ht hx
      have key : ∀ (l : List Field) (k p : Nat), (∀ f ∈ l, plainTy P n f.type = true) → packed P p l = some cs.length → (∀ (i : Nat) (f : Field), l[i]? = some f → DataW.trod enc P w base spare held m f.type ((cs.drop f.offset).take (P.cellsOf f.type)) = xs[k + i]?) →
          k + l.length = xs.length → p ≤ cs.length → ∃ ds, shFs (shD P n) l ds ∧ Tells w ds (cs.drop p) := by
        intro l
        induction l with
        | nil =>
          intro k p _ hp _ _ _
          simp only [packed, Option.some.injEq] at hp
          exact ⟨[], rfl, by rw [hp, List.drop_length]; exact ⟨rfl, fun i c d h => by simp at h⟩⟩
        | cons f l ih =>
          intro k p hpl hp hx hk hle
          simp only [packed] at hp
          split at hp
          · rename_i hoff
            have h1 := hx 0 f rfl
            have hk' : k < xs.length := by simp at hk; omega
            rw [Nat.add_zero, List.getElem?_eq_getElem hk'] at h1
            obtain ⟨a, ha1, ha2⟩ := trod_plain n f.type (hpl f List.mem_cons_self) m _ _ h1
            have hge : ∀ (l : List Field) (p q : Nat), packed P p l = some q → p ≤ q := by
              intro l
              induction l with
              | nil => intro p q h; simp only [packed, Option.some.injEq] at h; omega
              | cons g l ih =>
                intro p q h
                simp only [packed] at h
                split at h
                · have := ih _ _ h; omega
                · cases h
            have hle2 := hge _ _ _ hp
            obtain ⟨b, hb1, hb2⟩ := ih (k + 1) (p + P.cellsOf f.type) (fun g hg => hpl g (List.mem_cons_of_mem _ hg)) hp (fun i g hg => by rw [hx (i + 1) g (by simpa using hg)]; congr 1; omega) (by simp at hk; omega) hle2
            refine ⟨a ++ b, ⟨a, b, rfl, ha1, hb1⟩, ?_⟩
            have e : cs.drop p = (cs.drop f.offset).take (P.cellsOf f.type) ++ cs.drop (p + P.cellsOf f.type) := by
              rw [hoff, ← List.drop_drop, List.take_append_drop]
            rw [e]
            exact ha2.append hb2
          · cases hp
      obtain ⟨ds, h1, h2⟩ := key fs.toList 0 0 hall (by rw [hpk, hlen]) (fun i f hf => by rw [Nat.zero_add]; exact hel i f (by simpa using hf)) (by simp [hxl]) (Nat.zero_le _)
      exact ⟨ds, by simp only [shD, ht]; exact h1, by simpa using h2⟩
    · rename_i mm e ht
      simp only [Bool.and_eq_true, decide_eq_true_eq] at h
      obtain ⟨hsz, hpl⟩ := h
      obtain ⟨xs, m, _, _, hlen, hxl, hel⟩ := DataW.trod_array ht hx
      have key : ∀ (q k : Nat), k + q = mm → ∃ ds, shN (shD P n e) q ds ∧ Tells w ds (cs.drop (k * P.cellsOf e)) := by
        intro q
        induction q with
        | zero =>
          intro k hk
          refine ⟨[], rfl, ?_⟩
          rw [List.drop_of_length_le (by rw [hlen, hsz, ← hk]; simp)]
          exact ⟨rfl, fun i c d h => by simp at h⟩
        | succ q ih =>
          intro k hk
          have h1 := hel k (by omega)
          rw [List.getElem?_eq_getElem (by omega)] at h1
          obtain ⟨a, ha1, ha2⟩ := trod_plain n e hpl m _ _ h1
          obtain ⟨b, hb1, hb2⟩ := ih (k + 1) (by omega)
          refine ⟨a ++ b, ⟨a, b, rfl, ha1, hb1⟩, ?_⟩
          have e' : cs.drop (k * P.cellsOf e) = (cs.drop (k * P.cellsOf e)).take (P.cellsOf e) ++ cs.drop ((k + 1) * P.cellsOf e) := by
            rw [Nat.succ_mul, ← List.drop_drop, List.take_append_drop]
          rw [e']
          exact ha2.append hb2
      obtain ⟨ds, h1, h2⟩ := key mm 0 (by omega)
      exact ⟨ds, by simp only [shD, ht]; exact h1, by simpa using h2⟩
    · cases h

/-- An argument's value, out of its cells. -/
def argAV (P : Program) (t : TypeId) (ds : List D) : AV :=
  match P.underlying t with
  | some (.struct _) => .agg (ds.map .ofD)
  | some (.array _ _) => .agg (ds.map .ofD)
  | _ => .ofD (ds.getD 0 default)

def argsOk (P : Program) (n : Nat) : List TypeId → List AV → Prop
  | [], xs => xs = []
  | t :: ts, xs => ∃ ds xs', shD P n t ds ∧ xs = argAV P t ds :: xs' ∧ argsOk P n ts xs'

def oldGhost (w : World) : Ghost := ⟨[], oldImm w⟩

theorem oldMem (w : World) : Mem (oldGhost w) [] w :=
  ⟨rfl, fun o x g h => by simp at h, fun o o' g g' b h => by simp [oldGhost] at h, fun o g b h => by simp [oldGhost] at h, fun b off h => h⟩

theorem ok_ofD {d : D} {v : Value} {w : World} (h : DConc w (oldImm w) d v) : Conc (oldGhost w) w (.ofD d) v := ofD_conc h

theorem arg_plain {r : Reach} {b0 n : Nat} {t : TypeId} {v : Value} {d : DataW H} {ps : List MemPlace} (hp : plainTy P n t = true) (hval : Value.okWide P w r b0 t v) (hd : DataW.Trod enc P w base spare held t v d ps) :
    ∃ ds, shD P n t ds ∧ Conc (oldGhost w) w (argAV P t ds) v := by
  obtain ⟨fuel, hf⟩ := hd
  obtain ⟨ds, h1, h2, h3⟩ := trod_plain n t hp fuel _ _ hf
  refine ⟨ds, h1, ?_⟩
  have hagg : ∀ cs : Array Value, v = .agg cs → Conc (oldGhost w) w (.agg (ds.map .ofD)) v := by
    rintro cs rfl
    simp only [Value.cells] at h2 h3
    have := Conc.agg (G := oldGhost w) (w := w) (ds.map .ofD) cs.toList (by simpa using h2.symm) ?_ ?_
    · simpa using this
    · intro i u hu
      have hl : i < ds.length := by rw [h2]; exact (List.getElem?_eq_some_iff.1 hu).1
      exact (h3 i u ds[i] hu (List.getElem?_eq_getElem hl)).one
    · intro i c u hc hu
      rw [List.getElem?_map, Option.map_eq_some_iff] at hc
      obtain ⟨d', hd', rfl⟩ := hc
      exact ok_ofD (h3 i u d' hu hd')
  have hone : v.cells.toList = [v] → Conc (oldGhost w) w (.ofD (ds.getD 0 default)) v := by
    intro e
    rw [e] at h2 h3
    match ds, h2, h3 with
    | [d'], _, h3 => exact ok_ofD (h3 0 v d' rfl rfl)
  unfold plainTy at hp
  cases n with
  | zero => cases hp
  | succ n =>
    simp only at hp
    unfold argAV
    split at hp <;> rename_i ht <;> simp only [ht]
    · obtain ⟨b, rfl⟩ := okWide_bool ht hval; exact hone rfl
    · obtain ⟨b, rfl⟩ := okWide_int ht hval; exact hone rfl
    · obtain ⟨b, rfl⟩ := okWide_string ht hval; exact hone rfl
    · obtain ⟨a, l, c, rfl⟩ := okWide_slice ht hval; exact hone rfl
    · unfold Value.okWide at hval
      rw [ht] at hval
      obtain ⟨cs, e, _⟩ := hval
      exact hagg cs e
    · unfold Value.okWide at hval
      rw [ht] at hval
      obtain ⟨cs, e, _⟩ := hval
      exact hagg cs e
    · cases hp

theorem args_plain {b0 n : Nat} {r : Reach} : ∀ {ts : List TypeId} {vs : List Value} {ds : List (DataW H)} {ps : List MemPlace}, (∀ t ∈ ts, plainTy P n t = true) →
    (∀ (j : Nat) t v, ts[j]? = some t → vs[j]? = some v → Value.okWide P w r b0 t v) → DataW.TrodAll enc P w base spare held ts vs ds ps → ∃ xs, argsOk P n ts xs ∧ ConcL (oldGhost w) w xs vs
  | [], vs, ds, ps, _, _, h => by
    cases vs <;> cases ds <;> simp [DataW.TrodAll] at h
    exact ⟨[], rfl, rfl, fun i x v hx => by simp at hx⟩
  | t :: ts, vs, ds, ps, hp, hv, h => by
    obtain ⟨v, vs', d, ds', p, q, rfl, rfl, rfl, h1, h2⟩ := ChangeShapes.trodAll_cons h
    obtain ⟨cs, hc, hx⟩ := arg_plain (hp t List.mem_cons_self) (hv 0 t v rfl rfl) h1
    obtain ⟨xs, hxs, hl⟩ := args_plain (fun t' ht' => hp t' (List.mem_cons_of_mem _ ht')) (fun j t' v' ht' hv' => hv (j + 1) t' v' (by simpa using ht') (by simpa using hv')) h2
    refine ⟨argAV P t cs :: xs, ⟨cs, xs, hc, rfl, hxs⟩, by simp [hl.1], fun i x u hx' hu => ?_⟩
    cases i with
    | zero => cases hx'; cases hu; exact hx
    | succ i => exact hl.2 i x u (by simpa using hx') (by simpa using hu)
end

theorem Step.below {G G' : Ghost} {w w' : World} (h : Step G w G' w') (hb : G.bl = []) : Below w.heap.size w w' :=
  ⟨h.os, h.tape, h.output.1, h.size, fun k hk => h.heap k hk fun o g hg => by simp [hb] at hg⟩

theorem trodAll_below {H : Type} {enc : TypeId × Value → H} {P : Program} (hl : laidOutB P = true) {W W' : World} (hb : Below W.heap.size W W') : ∀ {ts : List TypeId} {vs : List Value} {ds : List (DataW H)} {ps : List MemPlace},
    (∀ t ∈ ts, P.readableRec t = true ∧ t < P.types.size) → DataW.TrodAll enc P W 0 (fun _ => true) true ts vs ds ps → (∀ x ∈ ps, x.block < W.heap.size) →
    DataW.TrodAll enc P W' 0 (fun b => decide (b < W.heap.size)) true ts vs ds ps
  | [], vs, ds, ps, _, h, _ => by cases vs <;> cases ds <;> simp [DataW.TrodAll] at h ⊢; exact h
  | t :: ts, vs, ds, ps, hr, h, hlt => by
    obtain ⟨v, vs', d, ds', p, q, rfl, rfl, rfl, h1, h2⟩ := ChangeShapes.trodAll_cons h
    obtain ⟨r1, r2⟩ := hr t List.mem_cons_self
    exact ⟨p, q, Below.trod hl r1 r2 h1 hb (fun x hx => hlt x (List.mem_append_left _ hx)), trodAll_below hl hb (fun t' ht' => hr t' (List.mem_cons_of_mem _ ht')) h2 (fun x hx => hlt x (List.mem_append_right _ hx)), rfl⟩

/-- A law's contract, out of its function's: whatever comes in, it answers true, and what was there is as it was. -/
theorem law_calls {H : Type} {enc : TypeId × Value → H} {P : Program} {f n : Nat} {fn : Func} {s : ChangeSpec} {bt : TypeId} (hvars : s.vars = []) (hts : fn.resultTypes = #[bt]) (hbt : P.underlying bt = some .bool)
    (hspec : ∀ ds : List (DataW H), ds.length = fn.params.toList.length → (s.fn H (ds ++ [])).results = [.lit (.bool true)] ∧ (s.fn H (ds ++ [])).args = ds ∧ (s.fn H (ds ++ [])).vars = [])
    (hp : fn.params.toList.all (fun t => plainTy P n t && P.readableRec t && decide (t < P.types.size)) = true) (hl : laidOutB P = true)
    (h : ∀ xs, argsOk P n fn.params.toList xs → Fun P f xs (.v (.bool true)) [])
    {W : World} {base : Nat} {args : Array Value} {ds gs : List (DataW H)} {before : List MemPlace}
    (hval : ∀ (j : Nat) t v, fn.params[j]? = some t → args[j]? = some v → Value.okWide P W .any base t v)
    (hW : DataW.Whole enc P fn.params.toList s.vars false W args.toList ds gs before) :
    Calls P f args W fun e W' => ∃ v, e = .returned v ∧ s.post enc P fn false true false false W args v W' := by
  have hlt := hW.lt
  have hW' := hW
  obtain ⟨p, q, hA, hV, rfl, hfz, hnd⟩ := hW
  rw [hvars] at hV
  obtain ⟨rfl, rfl⟩ := trodVars_none hV
  simp only [List.all_eq_true, Bool.and_eq_true, decide_eq_true_eq] at hp
  obtain ⟨xs, hxs, hc⟩ := args_plain (n := n) (fun t ht => (hp t ht).1.1) (fun j t v ht hv => hval j t v (by simpa using ht) (by simpa using hv)) hA
  have hcall := h xs hxs (oldGhost W) W args.toList (oldMem W) hc
  simp only [Array.toArray_toList] at hcall
  refine hcall.mono fun e W' ⟨ae, objs', G', ⟨hae, _⟩, _, hstep, hend⟩ => ?_
  subst hae
  cases e with
  | panicked _ => exact hend.elim
  | outgrown => exact hend.elim
  | returned v =>
    have hv : v = .bool true := conc_v hend
    subst hv
    have hb := hstep.below rfl
    have hlen : ds.length = fn.params.toList.length := by
      have key : ∀ {ts : List TypeId} {vs : List Value} {ds : List (DataW H)} {ps : List MemPlace}, DataW.TrodAll enc P W 0 (fun _ => true) true ts vs ds ps → ds.length = ts.length := by
        intro ts
        induction ts with
        | nil => intro vs ds ps h; cases vs <;> cases ds <;> simp [DataW.TrodAll] at h ⊢
        | cons t ts ih =>
          intro vs ds ps h
          obtain ⟨v, vs', d, ds', p, q, rfl, rfl, rfl, h1, h2⟩ := ChangeShapes.trodAll_cons h
          simp [ih h2]
      exact key hA
    obtain ⟨s1, s2, s3⟩ := hspec ds hlen
    refine ⟨_, rfl, ds, [], p ++ [], [], p, [], hW', ?_, ?_, ?_, ?_, fun h => by cases h⟩
    · rw [s1, hts]
      exact ⟨[], [], ⟨1, by simp [DataW.trod, hbt, Value.cells]⟩, rfl, rfl⟩
    · rw [s2]
      exact trodAll_below hl hb (fun t ht => ⟨(hp t ht).1.2, (hp t ht).2⟩) hA (fun x hx => hlt x (by simpa using hx))
    · rw [s3, hvars]; rfl
    · exact hb.frame _
end Go.Proofs.Ytickejlolpoboaa.AM
