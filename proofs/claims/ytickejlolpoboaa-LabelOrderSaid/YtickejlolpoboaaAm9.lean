/- Writing memory: new blocks, stores. -/
import Derived.Test.YtickejlolpoboaaAm8
set_option linter.all false
namespace Go.Proofs.Ytickejlolpoboaa.AM
open Go

/-- More objects, more cells that never change. -/
theorem im_of_sub {bl bl' : List GB} {imm imm' : Nat → Nat → Prop} (key : ∀ (o : Nat) (g : GB), bl[o]? = some g → bl'[o]? = some g) (hi : ∀ b off, imm b off → imm' b off) :
    ∀ (t : Tk) (b off : Nat), Ghost.im ⟨bl, imm⟩ t b off → Ghost.im ⟨bl', imm'⟩ t b off := by
  intro t b off h
  cases t with
  | none => exact hi b off h
  | exact => exact hi b off h
  | own o =>
    rcases h with h | ⟨len, cap, sz, h1, h2⟩
    · exact .inl (hi b off h)
    · exact .inr ⟨len, cap, sz, key o _ h1, h2⟩

/-- Where the cells of slices lie: in what never changes, or in a block of an object. -/
theorem im_cases {G : Ghost} {t : Tk} {b off : Nat} (h : G.im t b off) : G.imm b off ∨ ∃ (o : Nat) (len cap sz : Nat), t = .own o ∧ G.bl[o]? = some (GB.tok b len cap sz true) ∧ off < len * sz := by
  cases t with
  | none => exact .inl h
  | exact => exact .inl h
  | own o =>
    rcases h with h | ⟨len, cap, sz, h1, h2⟩
    · exact .inl h
    · exact .inr ⟨o, len, cap, sz, rfl, h1, h2⟩

theorem ObjOk.mono {G G' : Ghost} {w w' : World} (h : Ext G w G' w') {g : GB} (hb : ∀ b, g.blk = some b → w'.heap[b]? = w.heap[b]?)
    (hi : ∀ b, g.blk = some b → ∀ off, G'.imm b off → G.imm b off) {x : Obj} (hx : ObjOk G w g x) : ObjOk G' w' g x := by
  cases x with
  | box cells =>
    rcases hx with hx | ⟨b, c, e, rfl, h1, h2, h3, h4⟩
    · exact .inl hx
    · exact .inr ⟨b, c, e, rfl, (hb b rfl).trans h1, h2, fun j x v hj hv => ⟨(h3 j x v hj hv).1, (h3 j x v hj hv).2.mono h⟩, fun off hh => h4 off (hi b rfl off hh)⟩
  | tok len sz e ex =>
    rcases hx with hx | ⟨b, cap, cur, rfl, h1, h2, h3, h4, h5, h6⟩
    · exact .inl hx
    · exact .inr ⟨b, cap, cur, rfl, (hb b rfl).trans h1, h2, h3, h4, fun he off hh => h5 he off (hi b rfl off hh), fun he off hh => h6 he off (hi b rfl off hh)⟩
  | map es =>
    obtain ⟨b, ents, clock, rfl, h1, h2, h3, h4, h5⟩ := hx
    exact ⟨b, ents, clock, rfl, (hb b rfl).trans h1, h2, fun i k x e hi he => ⟨(h3 i k x e hi he).1, (h3 i k x e hi he).2.1.mono h, (h3 i k x e hi he).2.2⟩, h4, fun off hh => h5 off (hi b rfl off hh)⟩
  | dead => exact hx

theorem Mem.imLt {G : Ghost} {w : World} {objs : List Obj} (hm : Mem G objs w) (t : Tk) (b off : Nat) (h : G.im t b off) : b < w.heap.size := by
  rcases im_cases h with h | ⟨o, len, cap, sz, _, h1, _⟩
  · exact hm.immLt b off h
  · exact hm.lt o _ b h1 rfl

/-- Old memory is as it was, and own blocks' cells that never change are no more than they were: the objects stand. -/
theorem Mem.keep {G G' : Ghost} {w w' : World} {objs : List Obj} (hm : Mem G objs w) (h : Ext G w G' w') (hbl : G'.bl = G.bl)
    (hb : ∀ b, b < w.heap.size → w'.heap[b]? = w.heap[b]?) (hi : ∀ b, b < w.heap.size → ∀ off, G'.imm b off → G.imm b off) (hs : w.heap.size ≤ w'.heap.size)
    (hlt : ∀ b off, G'.imm b off → b < w'.heap.size) : Mem G' objs w' := by
  refine ⟨by rw [hbl]; exact hm.len, ?_, ?_, ?_, hlt⟩
  · intro o x g ho hg
    rw [hbl] at hg
    exact (hm.ok o x g ho hg).mono h (fun b hbb => hb b (hm.lt o g b hg hbb)) (fun b hbb => hi b (hm.lt o g b hg hbb))
  · intro o o' g g' b h1 h2; rw [hbl] at h1 h2; exact hm.inj o o' g g' b h1 h2
  · intro o g b h1 h2; rw [hbl] at h1; exact Nat.lt_of_lt_of_le (hm.lt o g b h1 h2) hs

/-- One more object at the end. -/
theorem Mem.push {G : Ghost} {w : World} {objs : List Obj} (hm : Mem G objs w) {g : GB} {x : Obj} (hx : ObjOk ⟨G.bl ++ [g], G.imm⟩ w g x)
    (hnew : ∀ b, g.blk = some b → b < w.heap.size ∧ ∀ (o : Nat) (g' : GB), G.bl[o]? = some g' → g'.blk ≠ some b) : Mem ⟨G.bl ++ [g], G.imm⟩ (objs ++ [x]) w := by
  have hold : ∀ (o : Nat) (g' : GB), (G.bl ++ [g])[o]? = some g' → (o < G.bl.length ∧ G.bl[o]? = some g') ∨ (o = G.bl.length ∧ g' = g) := by
    intro o g' h
    rcases Nat.lt_trichotomy o G.bl.length with hl | hl | hl
    · rw [List.getElem?_append_left hl] at h; exact .inl ⟨hl, h⟩
    · subst hl; simp at h; exact .inr ⟨rfl, h.symm⟩
    · rw [List.getElem?_append_right (Nat.le_of_lt hl), List.getElem?_eq_none (by simp; omega)] at h; cases h
  have hext : Ext G w ⟨G.bl ++ [g], G.imm⟩ w := by
    have key : ∀ (o : Nat) (g' : GB), G.bl[o]? = some g' → (G.bl ++ [g])[o]? = some g' := by
      intro o g' h
      have hl : o < G.bl.length := by
        rcases Nat.lt_or_ge o G.bl.length with hl | hl
        · exact hl
        · rw [List.getElem?_eq_none hl] at h; cases h
      rw [List.getElem?_append_left hl]; exact h
    exact ⟨fun _ _ _ _ => rfl, im_of_sub key (fun _ _ h => h), fun o b h => key o _ h, fun o l h => .inl (key o _ h), fun o b l c sz ex h => ⟨b, l, c, sz, ex, key o _ h, .inr ⟨rfl, rfl, rfl⟩⟩⟩
  refine ⟨by simp [hm.len], ?_, ?_, ?_, hm.immLt⟩
  · intro o y g' ho hg
    rcases hold o g' hg with ⟨hl, h1⟩ | ⟨hl, rfl⟩
    · rw [List.getElem?_append_left (by rw [← hm.len]; exact hl)] at ho
      exact (hm.ok o y g' ho h1).mono hext (fun _ _ => rfl) (fun _ _ _ h => h)
    · rw [hl, hm.len] at ho
      simp at ho
      subst ho
      exact hx
  · intro o o' g1 g2 b h1 h2 e1 e2
    rcases hold o g1 h1 with ⟨hl1, k1⟩ | ⟨hl1, rfl⟩ <;> rcases hold o' g2 h2 with ⟨hl2, k2⟩ | ⟨hl2, rfl⟩
    · exact hm.inj o o' g1 g2 b k1 k2 e1 e2
    · exact ((hnew b e2).2 o g1 k1 e1).elim
    · exact ((hnew b e1).2 o' g2 k2 e2).elim
    · omega
  · intro o g' b h1 e1
    rcases hold o g' h1 with ⟨_, k1⟩ | ⟨_, rfl⟩
    · exact hm.lt o g' b k1 e1
    · exact (hnew b e1).1

theorem ext_push (G : Ghost) (w : World) (g : GB) : Ext G w ⟨G.bl ++ [g], G.imm⟩ w := by
  have key : ∀ (o : Nat) (g' : GB), G.bl[o]? = some g' → (G.bl ++ [g])[o]? = some g' := by
    intro o g' h
    have hl : o < G.bl.length := by
      rcases Nat.lt_or_ge o G.bl.length with hl | hl
      · exact hl
      · rw [List.getElem?_eq_none hl] at h; cases h
    rw [List.getElem?_append_left hl]; exact h
  exact ⟨fun _ _ _ _ => rfl, im_of_sub key (fun _ _ h => h), fun o b h => key o _ h, fun o l h => .inl (key o _ h), fun o b l c sz ex h => ⟨b, l, c, sz, ex, key o _ h, .inr ⟨rfl, rfl, rfl⟩⟩⟩

theorem heap_alloc_lt (w : World) (o : Go.Obj) (b : Nat) (h : b < w.heap.size) : (w.alloc o).heap[b]? = w.heap[b]? := by
  show (w.heap.push o)[b]? = w.heap[b]?
  rw [Array.getElem?_push, if_neg (by omega)]

theorem heap_alloc_new' (w : World) (o : Go.Obj) : (w.alloc o).heap[w.heap.size]? = some o := by
  show (w.heap.push o)[w.heap.size]? = some o
  simp

theorem cell_of_heap {w w' : World} {b : Nat} (h : w'.heap[b]? = w.heap[b]?) (o : Nat) : w'.cell? ⟨b, o, none⟩ = w.cell? ⟨b, o, none⟩ := by simp [World.cell?, h]

/-- A world that differs in new blocks alone. -/
structure More (w w' : World) : Prop where
  heap : ∀ b, b < w.heap.size → w'.heap[b]? = w.heap[b]?
  size : w.heap.size ≤ w'.heap.size
  os : w'.os = w.os
  tape : w'.tape = w.tape
  output : w'.output = w.output ∧ w.drawn ≤ w'.drawn

theorem More.refl (w : World) : More w w := ⟨fun _ _ => rfl, Nat.le_refl _, rfl, rfl, ⟨rfl, Nat.le_refl _⟩⟩
theorem More.alloc {w w' : World} (h : More w w') (o : Go.Obj) : More w (w'.alloc o) :=
  ⟨fun b hb => (heap_alloc_lt w' o b (Nat.lt_of_lt_of_le hb h.size)).trans (h.heap b hb), by have := h.size; simp; omega, h.os, h.tape, h.output⟩
theorem More.drew {w w' : World} (h : More w w') : More w w'.drew := ⟨h.heap, h.size, h.os, h.tape, ⟨h.output.1, Nat.le_succ_of_le h.output.2⟩⟩

/-- New blocks, of which some cells never change from now on. -/
theorem More.step {G : Ghost} {objs : List Obj} {w w' : World} (hm : Mem G objs w) (h : More w w') {imm' : Nat → Nat → Prop} (h1 : ∀ b off, G.imm b off → imm' b off)
    (h2 : ∀ b off, imm' b off → G.imm b off ∨ (w.heap.size ≤ b ∧ b < w'.heap.size)) : Step G w ⟨G.bl, imm'⟩ w' ∧ Mem ⟨G.bl, imm'⟩ objs w' := by
  have hext : Ext G w ⟨G.bl, imm'⟩ w' :=
    ⟨fun t b o hi => cell_of_heap (h.heap b (hm.imLt t b o hi)) o, im_of_sub (fun _ _ h => h) h1, fun _ _ h => h, fun _ _ h => .inl h, fun _ b l c sz ex h => ⟨b, l, c, sz, ex, h, .inr ⟨rfl, rfl, rfl⟩⟩⟩
  refine ⟨⟨hext, fun k hk _ => h.heap k hk, h.size, h.os, h.tape, h.output, ?_, fun o g b hg hb => .inr ⟨o, g, hg, hb⟩⟩, ?_⟩
  · intro b off hi
    rcases h2 b off hi with h3 | h3
    · exact .inl h3
    · exact .inr (.inl h3.1)
  · refine hm.keep hext rfl h.heap ?_ h.size ?_
    · intro b hb off hi
      rcases h2 b off hi with h3 | h3
      · exact h3
      · omega
    · intro b off hi
      rcases h2 b off hi with h3 | h3
      · exact Nat.lt_of_lt_of_le (hm.immLt b off h3) h.size
      · exact h3.2

theorem Step.push {G G' : Ghost} {w w' : World} (h : Step G w G' w') (g : GB) (hnew : ∀ b, g.blk = some b → w.heap.size ≤ b) : Step G w ⟨G'.bl ++ [g], G'.imm⟩ w' := by
  refine ⟨h.ext.trans (ext_push G' w' g), h.heap, h.size, h.os, h.tape, h.output, h.imm2, ?_⟩
  intro o g' b hg hb
  rcases Nat.lt_trichotomy o G'.bl.length with hl | hl | hl
  · rw [List.getElem?_append_left hl] at hg; exact h.blk o g' b hg hb
  · subst hl; simp at hg; subst hg; exact .inl (hnew b hb)
  · rw [List.getElem?_append_right (Nat.le_of_lt hl), List.getElem?_eq_none (by simp; omega)] at hg; cases hg

/-- A new variable. -/
theorem box_step {G : Ghost} {objs : List Obj} {w : World} (hm : Mem G objs w) {cells : List AV} {vs : List Value} (hc : ConcL G w cells vs) (h1 : OneL vs) (e : TypeId) :
    ∃ G', Step G w G' (w.alloc (.cells vs.toArray e)) ∧ Mem G' (objs ++ [.box cells]) (w.alloc (.cells vs.toArray e)) ∧
      Conc G' (w.alloc (.cells vs.toArray e)) (.ptr objs.length 0) (.pointer (some ⟨w.heap.size, 0, none⟩)) := by
  obtain ⟨hs, hm'⟩ := More.step hm ((More.refl w).alloc (.cells vs.toArray e)) (imm' := G.imm) (fun _ _ h => h) (fun _ _ h => .inl h)
  have hnb : ∀ b, (GB.obj w.heap.size).blk = some b → w.heap.size ≤ b := by intro b hb; simp [GB.blk] at hb; omega
  refine ⟨⟨G.bl ++ [.obj w.heap.size], G.imm⟩, hs.push _ hnb, ?_, ?_⟩
  · refine Mem.push (G := ⟨G.bl, G.imm⟩) hm' ?_ ?_
    · refine .inr ⟨w.heap.size, vs.toArray, e, rfl, heap_alloc_new' w _, by simp [hc.1], ?_, ?_⟩
      · intro j x v hj hv
        have hv' : vs[j]? = some v := by simpa using hv
        exact ⟨h1 j v hv', (hc.2 j x v hj hv').mono (hs.push _ hnb).ext⟩
      · intro off hi
        have := hm.immLt _ _ hi
        omega
    · intro b hb
      simp [GB.blk] at hb
      subst hb
      refine ⟨by simp, fun o g hg hbb => ?_⟩
      have := hm.lt o g _ hg hbb
      omega
  · refine .ptr _ _ _ ?_
    rw [← hm.len]
    simp

theorem setFromV_eq : ∀ (us c : List Value) (off : Nat), off + us.length ≤ c.length → setFromV c off us = c.take off ++ us ++ c.drop (off + us.length)
  | [], c, off, _ => by simp [setFromV]
  | u :: us, c, off, h => by
    simp only [setFromV]
    rw [setFromV_eq us (c.set off u) (off + 1) (by simp at h ⊢; omega)]
    have := list_seg_step c off u us (by simpa using h)
    rw [this]
    simp

/-- A store into a variable. -/
theorem store_step {P : Program} {G : Ghost} {objs : List Obj} {w : World} (hm : Mem G objs w) {o off b : Nat} {cells xs : List AV} {us : List Value} (ho : objs[o]? = some (.box cells))
    (hb : G.bl[o]? = some (.obj b)) (hx : ConcL G w xs us) (h1 : OneL us) (hfit : off + xs.length ≤ cells.length) :
    ∃ w', (storeCells ⟨b, off, none⟩ us).run P w = .ok () w' ∧ Step G w G w' ∧ Mem G (objs.set o (.box (setFrom cells off xs))) w' := by
  obtain ⟨g, hg, hok⟩ := hm.obj ho
  rw [hb] at hg; cases hg
  rcases hok with ⟨_, l, hl⟩ | ⟨b', c, e, hbe, hh, hsz, hc, him⟩
  · cases hl
  cases hbe
  have hul : us.length = xs.length := hx.1
  have hrun := run_storeCells_at P b off e us 0 c w hh (by simp; omega) (fun v hv => by
    obtain ⟨i, hi, rfl⟩ := List.mem_iff_getElem.1 hv
    exact h1 i _ (List.getElem?_eq_getElem hi))
  simp only [Nat.add_zero] at hrun
  have heq : (c.toList.take off ++ us ++ c.toList.drop (off + us.length)) = setFromV c.toList off us := (setFromV_eq us c.toList off (by simp; omega)).symm
  rw [heq] at hrun
  have hext : Ext G w G (w.setRow b (setFromV c.toList off us).toArray) := by
    refine ⟨fun t b' o' hi => ?_, fun _ _ _ h => h, fun _ _ h => h, fun _ _ h => .inl h, fun _ b l c sz ex h => ⟨b, l, c, sz, ex, h, .inr ⟨rfl, rfl, rfl⟩⟩⟩
    refine cell_of_heap (setRow_other w b b' _ ?_) o'
    rintro rfl
    rcases im_cases hi with hi | ⟨o2, len, cap, sz, _, h1, _⟩
    · exact him o' hi
    · have := hm.inj o o2 _ _ _ hb h1 rfl rfl
      subst this
      rw [hb] at h1; cases h1
  refine ⟨_, hrun, ⟨hext, ?_, by simp, rfl, rfl, ⟨rfl, Nat.le_refl _⟩, fun _ _ h => .inl h, fun o g b hg hb => .inr ⟨o, g, hg, hb⟩⟩, ?_⟩
  · intro k hk hn
    refine setRow_other w b k _ ?_
    rintro rfl
    exact hn o _ hb rfl
  · have hlo : o < objs.length := by
      rcases Nat.lt_or_ge o objs.length with hl | hl
      · exact hl
      · rw [List.getElem?_eq_none hl] at ho; cases ho
    refine ⟨by simp [hm.len], ?_, hm.inj, fun o g b' h1 h2 => by simpa using hm.lt o g b' h1 h2, fun b' off' h => by simpa using hm.immLt b' off' h⟩
    intro o' y g' ho' hg'
    by_cases heo : o = o'
    · subst heo
      rw [List.getElem?_set, if_pos rfl, if_pos hlo] at ho'
      cases ho'
      rw [hb] at hg'; cases hg'
      have hcells : ConcL G w cells (c.toList.take cells.length) := ⟨by simp; omega, fun i x v hx hv => by
        rw [List.getElem?_take] at hv
        split at hv
        · exact (hc i x v hx (by simpa using hv)).2
        · cases hv⟩
      have hone : OneL (c.toList.take cells.length) := fun i v hv => by
        rw [List.getElem?_take] at hv
        split at hv
        · rename_i hi; exact (hc i _ v (List.getElem?_eq_getElem hi) (by simpa using hv)).1
        · cases hv
      obtain ⟨k1, k2⟩ := ConcL.setFrom off hcells hone hx h1
      have hsub : ∀ (j : Nat) (v : Value), j < cells.length → (setFromV c.toList off us)[j]? = some v → (setFromV (c.toList.take cells.length) off us)[j]? = some v := by
        intro j v hj hv
        rw [setFromV_eq us c.toList off (by simp; omega)] at hv
        rw [setFromV_eq us (c.toList.take cells.length) off (by simp; omega)]
        have hcl : cells.length ≤ c.toList.length := by simpa using hsz
        have ht : (c.toList.take cells.length).take off = c.toList.take off := by rw [List.take_take]; congr 1; omega
        rw [ht]
        rcases Nat.lt_or_ge j (c.toList.take off ++ us).length with hl | hl
        · rw [List.getElem?_append_left hl] at hv ⊢; exact hv
        · rw [List.getElem?_append_right hl] at hv ⊢
          have hlen : (c.toList.take off ++ us).length = off + us.length := by simp; omega
          rw [hlen] at hl hv ⊢
          rw [List.getElem?_drop] at hv ⊢
          rw [List.getElem?_take, if_pos (by omega)]
          exact hv
      refine .inr ⟨b, _, e, rfl, setRow_heap w b c _ e (0, 0) hh, by rw [List.size_toArray, setFromV_length, setFrom_length]; simpa using hsz, ?_, him⟩
      intro j x v hj hv
      have hv' : (setFromV c.toList off us)[j]? = some v := by simpa using hv
      have hjl : j < cells.length := by
        rcases Nat.lt_or_ge j cells.length with h | h
        · exact h
        · rw [List.getElem?_eq_none (by rw [setFrom_length]; exact h)] at hj; cases hj
      have hv2 := hsub j v hjl hv'
      exact ⟨k2 j v hv2, (k1.2 j x v hj hv2).mono hext⟩
    · rw [List.getElem?_set, if_neg heo] at ho'
      refine (hm.ok o' y g' ho' hg').mono hext ?_ (fun _ _ _ h => h)
      intro b' hb'
      refine setRow_other w b b' _ ?_
      rintro rfl
      exact heo (hm.inj o o' _ _ _ hb hg' rfl hb')

end Go.Proofs.Ytickejlolpoboaa.AM
