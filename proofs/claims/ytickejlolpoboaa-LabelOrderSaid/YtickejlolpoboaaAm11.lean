/- append, in abstract terms. -/
import Derived.Test.YtickejlolpoboaaAm10
set_option linter.all false
namespace Go.Proofs.Ytickejlolpoboaa.AM
open Go

def isStrD : TypeDesc → Bool | .string => true | _ => false

theorem isStrD_eq {d : TypeDesc} (h : isStrD d = true) : d = .string := by cases d <;> simp [isStrD] at h; rfl

/-- The rows that are appended. -/
def appRows (P : Program) (t xt : TypeId) (e : TypeId) (x : AV) : Option (List (List D)) :=
  match x with
  | .v (.slice none 0 0) => if t = xt then some [] else none
  | .sl rows _ => if t = xt then some rows else none
  | .v (.string s) => if (ti P xt).map (fun i => isStrD i.desc) = some true ∧ (ti P e).map TI.size = some 1 then some (encB s.data.toList) else none
  | _ => none

def appendAV (P : Program) (t xt : TypeId) (objs : List Obj) (s x : AV) (k : AV → List Obj → Prop) : Prop :=
  match ti P t with
  | some i =>
    match i.desc with
    | .slice e =>
      match ti P e with
      | some j =>
        match appRows P t xt e x with
        | some rows2 =>
          0 < j.size ∧ 0 < j.bytes ∧ (∀ r ∈ rows2, r.length = j.size) ∧
          (match s with
          | .v (.slice none 0 0) => rows2.length * j.bytes ≤ 140737488355328 ∧ k (.sl rows2 (.own objs.length)) (objs ++ [.tok rows2.length j.size e true])
          | .sl rows .exact => (∀ r ∈ rows, r.length = j.size) ∧ (rows.length + rows2.length) * j.bytes ≤ 140737488355328 ∧
              k (.sl (rows ++ rows2) (.own objs.length)) (objs ++ [.tok (rows.length + rows2.length) j.size e rows.isEmpty])
          | .sl rows (.own o) =>
            match objs[o]? with
            | some (.tok len sz e' ex) => len = rows.length ∧ sz = j.size ∧ e' = e ∧ (∀ r ∈ rows, r.length = j.size) ∧ (rows.length + rows2.length) * j.bytes ≤ 140737488355328 ∧
                k (.sl (rows ++ rows2) (.own o)) (objs.set o (.tok (rows.length + rows2.length) j.size e ex))
            | _ => False
          | _ => False)
        | none => False
      | none => False
    | _ => False
  | none => False

theorem append_src {P : Program} {G : Ghost} {w : World} {t xt e : TypeId} {i j : TI} (hi : ti P t = some i) (hd : i.desc = .slice e) (hj : ti P e = some j) (hs0 : 0 < j.size) {x : AV} {v : Value} {rows2 : List (List D)}
    (h : appRows P t xt e x = some rows2) (hs : ∀ r ∈ rows2, r.length = j.size) (hx : Conc G w x v) :
    (∃ i1 news, (∀ b off, i1 b off → ∃ t, G.im t b off) ∧ Src P w i1 G.imm j.size rows2 v news) ∧ ∃ d, P.underlying xt = some d ∧ (d = .slice e ∨ d = .string) := by
  unfold appRows at h
  split at h
  · split at h
    · rename_i ht
      subst ht
      cases h
      refine ⟨?_, _, (ti_spec hi).1, .inl hd⟩
      cases hx
      obtain ⟨news, hn⟩ := src_slice (P := P) (w := w) (i1 := G.imm) (imm := G.imm) hs0 hs (SlC.nil none 0 (by simp [maxLen]))
      exact ⟨G.imm, news, fun b off h => ⟨.none, h⟩, hn⟩
    · cases h
  · split at h
    · rename_i ht
      subst ht
      cases h
      refine ⟨?_, _, (ti_spec hi).1, .inl hd⟩
      cases hx with
      | sl _ tk _ hdc _ =>
        obtain ⟨news, hn⟩ := src_slice (P := P) hs0 hs hdc
        exact ⟨_, news, fun b off h => ⟨_, h⟩, hn⟩
    · cases h
  · split at h
    · rename_i s hc
      obtain ⟨hc1, hc2⟩ := hc
      cases h
      cases hx
      have h1 : j.size = 1 := by simpa [hj] using hc2
      rw [h1]
      refine ⟨⟨G.imm, _, fun b off h => ⟨.none, h⟩, src_string s⟩, ?_⟩
      cases hxt : ti P xt with
      | none => simp [hxt] at hc1
      | some ix =>
        simp [hxt] at hc1
        exact ⟨_, (ti_spec hxt).1, .inr (isStrD_eq hc1)⟩
    · cases h
  · cases h

theorem size_zeroCells' (z : Array Value) (n : Nat) : (Builtin.zeroCells z n).size = n * z.size := by simp [Builtin.zeroCells]

/-- The slice did not have room enough: a new row. What is written there may be shared (ex = false) or not. -/
theorem grow_step {P : Program} {G : Ghost} {objs : List Obj} {w : World} (hm : Mem G objs w) {e : TypeId} {j : TI} (hj : ti P e = some j) (hs0 : 0 < j.size) {rows : List (List D)} {olds : List Value}
    (hs : ∀ r ∈ rows, r.length = j.size) (hf : Flat w G.imm j.size rows olds) (n cap0 : Nat) (hn : n = rows.length) (h63 : n ≤ maxLen) (z : Array Value) (hz : z.size = j.size) (ex : Bool) :
    ∃ cap : Nat, cap = grownCap w n cap0 e ∧ n ≤ cap ∧ cap ≤ maxLen ∧ ∃ w', w' = w.drew.alloc (.cells (olds.toArray ++ Builtin.zeroCells z (cap - n)) e) ∧
      ∃ imm' : Nat → Nat → Prop, Step G w ⟨G.bl, imm'⟩ w' ∧ Mem ⟨G.bl, imm'⟩ objs w' ∧ RowsAt w' (fun b off => imm' b off ∨ (b = w.heap.size ∧ off < n * j.size)) imm' w.heap.size 0 j.size rows ∧
        (ex = true → ∀ off, ¬ imm' w.heap.size off) ∧ (ex = false → ∀ off, imm' w.heap.size off ↔ off < n * j.size) ∧
        w'.heap[w.heap.size]? = some (.cells (olds.toArray ++ Builtin.zeroCells z (cap - n)) e (0, 0)) ∧ (olds.toArray ++ Builtin.zeroCells z (cap - n)).size = cap * j.size := by
  refine ⟨_, rfl, grownCap_ge w n cap0 e, grownCap_le_maxLen w n cap0 e h63, _, rfl, fun b off => G.imm b off ∨ (ex = false ∧ b = w.heap.size ∧ off < n * j.size), ?_⟩
  have hnew : (w.drew.alloc (.cells (olds.toArray ++ Builtin.zeroCells z (grownCap w n cap0 e - n)) e)).heap[w.heap.size]? = some (.cells (olds.toArray ++ Builtin.zeroCells z (grownCap w n cap0 e - n)) e (0, 0)) := heap_alloc_new' w.drew _
  obtain ⟨h1, h2⟩ := More.step hm (((More.refl w).drew).alloc (.cells (olds.toArray ++ Builtin.zeroCells z (grownCap w n cap0 e - n)) e)) (imm' := fun b off => G.imm b off ∨ (ex = false ∧ b = w.heap.size ∧ off < n * j.size))
    (fun _ _ h => .inl h) (fun b off h => by
      rcases h with h | ⟨_, rfl, _⟩
      · exact .inl h
      · exact .inr ⟨Nat.le_refl _, by simp⟩)
  have hold : ∀ off, ¬ G.imm w.heap.size off := fun off h => by have := hm.immLt _ _ h; omega
  refine ⟨h1, h2, ?_, ?_, ?_, hnew, ?_⟩
  · refine Flat.rowsAt hs (hf.mono h1.ext.cell h1.ext.imm) ?_ ?_
    · intro q u hu
      rw [cell_at hnew, Nat.zero_add]
      have hq : q < olds.length := by
        rcases Nat.lt_or_ge q olds.length with hl | hl
        · exact hl
        · rw [List.getElem?_eq_none hl] at hu; cases hu
      rw [Array.getElem?_append_left (by simpa using hq)]
      simpa using hu
    · intro q hq
      rw [Nat.zero_add]
      exact .inr ⟨rfl, by rw [hn]; exact hq⟩
  · intro he off h
    rcases h with h | ⟨h, _⟩
    · exact hold off h
    · rw [he] at h; cases h
  · intro he off
    constructor
    · rintro (h | ⟨_, _, h⟩)
      · exact (hold off h).elim
      · exact h
    · intro h; exact .inr ⟨he, rfl, h⟩
  · have hge := grownCap_ge w n cap0 e
    rw [Array.size_append, size_zeroCells', List.size_toArray, hf.1, hz, ← hn, ← Nat.add_mul]
    congr 1
    omega

theorem Mem.own_set {G : Ghost} {objs : List Obj} {w : World} (hm : Mem G objs w) {o : Nat} {g : GB} {x : Obj} {imm' : Nat → Nat → Prop} (hb : ∀ b, g.blk = some b → b < w.heap.size ∧ ∀ (o' : Nat) (g' : GB), o' ≠ o → G.bl[o']? = some g' → g'.blk ≠ some b)
    (hx : ObjOk ⟨G.bl.set o g, imm'⟩ w g x) (hext : Ext G w ⟨G.bl.set o g, imm'⟩ w) (hlt : ∀ b off, imm' b off → b < w.heap.size)
    (hi : ∀ (o' : Nat) (g' : GB) (b : Nat), o' ≠ o → G.bl[o']? = some g' → g'.blk = some b → ∀ off, imm' b off → G.imm b off) : Mem ⟨G.bl.set o g, imm'⟩ (objs.set o x) w := by
  have hget : ∀ (o' : Nat) (g' : GB), (G.bl.set o g)[o']? = some g' → (o' = o ∧ g' = g) ∨ (o' ≠ o ∧ G.bl[o']? = some g') := by
    intro o' g' h
    rw [List.getElem?_set] at h
    by_cases he : o = o'
    · subst he
      rw [if_pos rfl] at h
      split at h
      · cases h; exact .inl ⟨rfl, rfl⟩
      · cases h
    · rw [if_neg he] at h; exact .inr ⟨fun e => he e.symm, h⟩
  refine ⟨by simp [hm.len], ?_, ?_, ?_, hlt⟩
  · intro o' y g' ho hg
    rcases hget o' g' hg with ⟨rfl, rfl⟩ | ⟨hne, hg'⟩
    · rw [List.getElem?_set, if_pos rfl] at ho
      split at ho
      · cases ho; exact hx
      · cases ho
    · rw [List.getElem?_set, if_neg (Ne.symm hne)] at ho
      exact (hm.ok o' y g' ho hg').mono hext (fun _ _ => rfl) (fun b hbb off h => hi o' g' b hne hg' hbb off h)
  · intro o1 o2 g1 g2 b h1 h2 e1 e2
    rcases hget o1 g1 h1 with ⟨rfl, rfl⟩ | ⟨hn1, k1⟩ <;> rcases hget o2 g2 h2 with ⟨rfl, rfl⟩ | ⟨hn2, k2⟩
    · rfl
    · exact ((hb b e1).2 o2 g2 hn2 k2 e2).elim
    · exact ((hb b e2).2 o1 g1 hn1 k1 e1).elim
    · exact hm.inj o1 o2 g1 g2 b k1 k2 e1 e2
  · intro o1 g1 b h1 e1
    rcases hget o1 g1 h1 with ⟨rfl, rfl⟩ | ⟨_, k1⟩
    · exact (hb b e1).1
    · exact hm.lt o1 g1 b k1 e1

theorem ext_set {G : Ghost} {w : World} {o : Nat} {g0 g : GB} {imm' : Nat → Nat → Prop} (hi : ∀ b off, G.imm b off → imm' b off) (h0 : G.bl[o]? = some g0)
    (him : ∀ b off, G.im (.own o) b off → Ghost.im ⟨G.bl.set o g, imm'⟩ (.own o) b off)
    (h : (∃ l, g0 = .full l ∧ ((g = .full l) ∨ ∃ b l' c sz ex, g = .tok b l' c sz ex ∧ l < l')) ∨ (∃ b l c sz ex, g0 = .tok b l c sz ex ∧ ∃ b' l' c' sz' ex', g = .tok b' l' c' sz' ex' ∧ (l < l' ∨ (b' = b ∧ l' = l ∧ c' = c)))) :
    Ext G w ⟨G.bl.set o g, imm'⟩ w := by
  have hl : o < G.bl.length := by
    rcases Nat.lt_or_ge o G.bl.length with hl | hl
    · exact hl
    · rw [List.getElem?_eq_none hl] at h0; cases h0
  have other : ∀ o', o ≠ o' → (G.bl.set o g)[o']? = G.bl[o']? := fun o' hne => by rw [List.getElem?_set, if_neg hne]
  have self : (G.bl.set o g)[o]? = some g := by rw [List.getElem?_set, if_pos rfl, if_pos hl]
  refine ⟨fun _ _ _ _ => rfl, ?_, ?_, ?_, ?_⟩
  · intro t b off ht
    by_cases he : t = .own o
    · subst he; exact him b off ht
    · cases t with
      | none => exact hi b off ht
      | exact => exact hi b off ht
      | own o' =>
        have hne : o ≠ o' := fun e => he (by rw [e])
        rcases ht with ht | ⟨len, cap, sz, h1, h2⟩
        · exact .inl (hi b off ht)
        · exact .inr ⟨len, cap, sz, by rw [other o' hne]; exact h1, h2⟩
  · intro o' b hb
    by_cases he : o = o'
    · subst he
      rw [h0] at hb
      rcases h with ⟨l, rfl, _⟩ | ⟨b', l, c, sz, ex, rfl, _⟩ <;> cases hb
    · rw [other o' he]; exact hb
  · intro o' l hb
    by_cases he : o = o'
    · subst he
      rw [h0] at hb
      rcases h with ⟨l', rfl, h⟩ | ⟨b', l', c, sz, ex, rfl, _⟩
      · cases hb
        rcases h with rfl | ⟨b, l', c, sz, ex, rfl, hlt⟩
        · exact .inl self
        · exact .inr ⟨b, l', c, sz, ex, self, hlt⟩
      · cases hb
    · rw [other o' he]; exact .inl hb
  · intro o' b l c sz ex hb
    by_cases he : o = o'
    · subst he
      rw [h0] at hb
      rcases h with ⟨l', rfl, h⟩ | ⟨b', l', c', sz', ex', rfl, b2, l2, c2, sz2, ex2, rfl, h⟩
      · cases hb
      · cases hb; exact ⟨b2, l2, c2, sz2, ex2, self, h⟩
    · rw [other o' he]; exact ⟨b, l, c, sz, ex, hb, .inr ⟨rfl, rfl, rfl⟩⟩

end Go.Proofs.Ytickejlolpoboaa.AM
