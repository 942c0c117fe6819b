/- A row of one's own that is written: out of the pure rows, and back. -/
import Derived.Test.YtickejlolpoboaaAm19
set_option linter.all false
namespace Go.Proofs.Ytickejlolpoboaa.AM
open Go

def rowCells (rows : List (List D)) : List AV := rows.flatten.map .ofD

theorem Mem.trunc {G : Ghost} {w : World} {objs extra : List Obj} (hm : Mem G (objs ++ extra) w) (h2 : belowObjs objs.length objs = true) : Mem ⟨G.bl.take objs.length, G.imm⟩ objs w := by
  have hlen : G.bl.length = objs.length + extra.length := by rw [hm.len, List.length_append]
  refine ⟨by simp; omega, ?_, ?_, ?_, hm.immLt⟩
  · intro o x g hx hg
    obtain ⟨hol, hg'⟩ := take_get' hg
    have hx' : (objs ++ extra)[o]? = some x := by rw [List.getElem?_append_left hol]; exact hx
    have hok := hm.ok o x g hx' hg'
    have hb := belowObjs_get h2 o x hx
    cases x with
    | box cells =>
      rcases hok with hok | ⟨b, c, e, e1, e2, e3, e4, e5⟩
      · exact .inl hok
      exact .inr ⟨b, c, e, e1, e2, e3, fun j x v hj hv => ⟨(e4 j x v hj hv).1, (e4 j x v hj hv).2.trunc (belowL_get (by simpa [Obj.idsLt] using hb) j x hj)⟩, e5⟩
    | tok len sz e ex => exact hok
    | map es =>
      obtain ⟨b, ents, clock, e1, e2, e3, e4, e5, e6⟩ := hok
      refine ⟨b, ents, clock, e1, e2, e3, fun i k y e hi he => ⟨(e4 i k y e hi he).1, (e4 i k y e hi he).2.1.trunc ?_, (e4 i k y e hi he).2.2⟩, e5, e6⟩
      have hall : es.all (fun e => e.2.idsLt objs.length) = true := hb
      exact List.all_eq_true.1 hall _ (List.mem_of_getElem? hi)
    | dead => exact hok
  · intro o o' g g' b h1 h2; exact hm.inj o o' g g' b (take_get' h1).2 (take_get' h2).2
  · intro o g b h; exact hm.lt o g b (take_get' h).2

theorem Step.trunc {G0 G : Ghost} {w0 w : World} {n : Nat} (h : Step G0 w0 G w) (hn : G0.bl.length ≤ n) : Step G0 w0 ⟨G.bl.take n, G.imm⟩ w := by
  have key : ∀ (o : Nat) (g : GB), G0.bl[o]? = some g → o < n := by
    intro o g hg
    have : o < G0.bl.length := by
      rcases Nat.lt_or_ge o G0.bl.length with h | h
      · exact h
      · rw [List.getElem?_eq_none h] at hg; cases hg
    omega
  refine ⟨⟨h.ext.cells, ?_, fun o b h' => take_get (key o _ h') (h.ext.obj o b h'), ?_, ?_⟩, h.heap, h.size, h.os, h.tape, h.output, h.imm2, ?_⟩
  · intro t b off ht
    have h' := h.ext.im t b off ht
    rcases im_cases ht with hi | ⟨o, len, cap, sz, rfl, h1, _⟩
    · exact Ghost.imm_im _ t (h.ext.imm b off hi)
    · exact im_trunc (by simp only [Tk.idsLt, decide_eq_true_eq]; exact key o _ h1) h'
  · intro o l h1
    rcases h.ext.full o l h1 with h' | ⟨b, l', c, sz, ex, h', hlt⟩
    · exact .inl (take_get (key o _ h1) h')
    · exact .inr ⟨b, l', c, sz, ex, take_get (key o _ h1) h', hlt⟩
  · intro o b l c sz ex h1
    obtain ⟨b', l', c', sz', ex', h', hx⟩ := h.ext.tok o b l c sz ex h1
    exact ⟨b', l', c', sz', ex', take_get (key o _ h1) h', hx⟩
  · intro o g b h1 hb
    exact h.blk o g b (take_get' h1).2 hb

theorem flat_get {α : Type} {sz : Nat} : ∀ {rows : List (List α)} {k : Nat} {d : α}, (∀ (i : Nat) (r : List α), rows[i]? = some r → r.length = sz) → rows.flatten[k]? = some d →
    ∃ (i j : Nat) (r : List α), rows[i]? = some r ∧ r[j]? = some d ∧ k = i * sz + j
  | [], k, d, _, h => by simp at h
  | r :: rows, k, d, hl, h => by
    have h0 := hl 0 r rfl
    rcases Nat.lt_or_ge k r.length with hk | hk
    · rw [List.flatten_cons, List.getElem?_append_left hk] at h
      exact ⟨0, k, r, rfl, h, by omega⟩
    · rw [List.flatten_cons, List.getElem?_append_right hk] at h
      obtain ⟨i, j, r', h1, h2, h3⟩ := flat_get (fun i r h => hl (i + 1) r (by simpa using h)) h
      exact ⟨i + 1, j, r', by simpa using h1, h2, by rw [Nat.succ_mul]; omega⟩

theorem flat_len {α : Type} {sz : Nat} : ∀ {rows : List (List α)}, (∀ (i : Nat) (r : List α), rows[i]? = some r → r.length = sz) → rows.flatten.length = rows.length * sz
  | [], _ => by simp
  | r :: rows, hl => by
    have h0 := hl 0 r rfl
    rw [List.flatten_cons, List.length_append, flat_len (fun i r h => hl (i + 1) r (by simpa using h)), List.length_cons, Nat.succ_mul]; omega

theorem flat_of_row {α : Type} {sz : Nat} : ∀ {rows : List (List α)} {i j : Nat} {r : List α} {d : α}, (∀ (i : Nat) (r : List α), rows[i]? = some r → r.length = sz) → rows[i]? = some r → r[j]? = some d → rows.flatten[i * sz + j]? = some d
  | [], i, j, r, d, _, h, _ => by simp at h
  | r0 :: rows, i, j, r, d, hl, h, hj => by
    have h0 := hl 0 r0 rfl
    cases i with
    | zero =>
      simp at h; subst h
      have hjl : j < r0.length := by
        rcases Nat.lt_or_ge j r0.length with h | h
        · exact h
        · rw [List.getElem?_eq_none h] at hj; cases hj
      rw [List.flatten_cons, List.getElem?_append_left (by omega)]
      simpa using hj
    | succ i =>
      rw [List.flatten_cons, List.getElem?_append_right (by rw [Nat.succ_mul]; omega)]
      have := flat_of_row (fun i r h => hl (i + 1) r (by simpa using h)) (by simpa using h) hj
      rw [show (i + 1) * sz + j - r0.length = i * sz + j from by rw [Nat.succ_mul]; omega]
      exact this

theorem cell_cells {w : World} {b : Nat} {c : Array Value} {e : TypeId} {t : Nat × Nat} (h : w.heap[b]? = some (.cells c e t)) (o : Nat) : w.cell? ⟨b, o, none⟩ = c[o]? := by
  simp [World.cell?, h]

theorem conc_ofD {G : Ghost} {w : World} {d : D} {v : Value} (h : Conc G w (.ofD d) v) : DConc w G.imm d v := by
  cases d with
  | v x => cases h with | v _ h => exact .v _ h
  | sl rows => cases h with | sl _ _ _ h _ => exact DConc.sl_iff.2 h

theorem rowCells_len {rows : List (List D)} {sz : Nat} (h : ∀ (i : Nat) (r : List D), rows[i]? = some r → r.length = sz) : (rowCells rows).length = rows.length * sz := by
  rw [rowCells, List.length_map, flat_len h]

/-- Rows that nothing else leads to: they may be written from now on. -/
theorem Weak.unbox {n0 : Nat} {tmps : List AV} {objs : List Obj} (i : Nat) {rows : List (List D)} {n sz e : Nat} (hi : tmps[i]? = some (.sl rows (.own objs.length))) (hn : rows.length = n)
    (hn0 : n0 ≤ objs.length) (h1 : AV.idsLtL objs.length (tmps.set i .any) = true) (h2 : belowObjs objs.length objs = true) :
    Weak n0 ⟨tmps, objs ++ [.tok n sz e true]⟩ ⟨tmps.set i (.bsl objs.length 0 n), objs ++ [.box (rowCells rows)]⟩ := by
  intro G0 w0 G a w hl0 hf
  have hm := hf.sat.mem
  have hlen : G.bl.length = objs.length + 1 := by rw [hm.len]; simp
  have hst := hf.step.trunc (n := objs.length) (by omega)
  have hm' := hm.trunc h2
  have htl : (G.bl.take objs.length).length = objs.length := by simp; omega
  have htm : ConcL ⟨G.bl.take objs.length, G.imm⟩ w (tmps.set i .any) a.tmps.toList := by
    have := (hf.sat.tmps.set i (x := .any) (v := a.tmps.toList[i]?.getD undef) (.any _))
    have hself : a.tmps.toList.set i (a.tmps.toList[i]?.getD undef) = a.tmps.toList := by
      cases hq : a.tmps.toList[i]? with
      | none => rw [List.set_eq_of_length_le]; exact List.getElem?_eq_none_iff.1 hq
      | some v => exact list_set_self (by simpa using hq)
    rw [hself] at this
    exact ⟨this.1, fun j x v hx hv => (this.2 j x v hx hv).trunc (belowL_get h1 j x hx)⟩
  have hil : i < a.tmps.toList.length := by
    rw [hf.sat.tmps.1]
    rcases Nat.lt_or_ge i tmps.length with hl | hl
    · exact hl
    · rw [List.getElem?_eq_none hl] at hi; cases hi
  have hv := hf.sat.tmps.2 i _ _ hi (List.getElem?_eq_getElem hil)
  obtain ⟨g, hg, hok⟩ := hm.obj (o := objs.length) (x := .tok n sz e true) (by simp)
  cases hv with
  | sl _ _ _ hd ht =>
    have fin : ∀ (g' : GB), (∀ b, g'.blk = some b → w0.heap.size ≤ b ∨ ∃ (o : Nat) (g : GB), G0.bl[o]? = some g ∧ g.blk = some b) →
        (∀ b, g'.blk = some b → b < w.heap.size ∧ ∀ (o : Nat) (g'' : GB), (G.bl.take objs.length)[o]? = some g'' → g''.blk ≠ some b) →
        ObjOk ⟨G.bl.take objs.length ++ [g'], G.imm⟩ w g' (.box (rowCells rows)) →
        Conc ⟨G.bl.take objs.length ++ [g'], G.imm⟩ w (.bsl objs.length 0 n) a.tmps.toList[i] →
        From G0 w0 ⟨G.bl.take objs.length ++ [g'], G.imm⟩ ⟨tmps.set i (.bsl objs.length 0 n), objs ++ [.box (rowCells rows)]⟩ a w := by
      intro g' hb1 hb2 hob hcv
      have hext : Ext ⟨G.bl.take objs.length, G.imm⟩ w ⟨G.bl.take objs.length ++ [g'], G.imm⟩ w := ext_push ⟨G.bl.take objs.length, G.imm⟩ w g'
      refine ⟨⟨hst.ext.trans hext, hst.heap, hst.size, hst.os, hst.tape, hst.output, hst.imm2, ?_⟩, Mem.push (G := ⟨G.bl.take objs.length, G.imm⟩) hm' hob hb2, ?_, hf.sat.defers⟩
      · intro o g'' b hg'' hbb
        rcases Nat.lt_or_ge o objs.length with hl | hl
        · rw [List.getElem?_append_left (by omega)] at hg''
          exact hst.blk o g'' b hg'' hbb
        · rw [List.getElem?_append_right (by omega)] at hg''
          cases hz : o - (G.bl.take objs.length).length with
          | zero => rw [hz] at hg''; simp at hg''; subst hg''; exact hb1 b hbb
          | succ m => rw [hz] at hg''; simp at hg''
      · have hmono := htm.mono hext
        have hset := hmono.set i hcv
        have hself : a.tmps.toList.set i a.tmps.toList[i] = a.tmps.toList := list_set_self (List.getElem?_eq_getElem hil)
        rw [hself] at hset
        simpa using hset
    rcases hok with ⟨rfl, hex⟩ | ⟨b, cap, cur, rfl, hh, hc1, hc2, hc3, hc4, _⟩
    · have hn' : n = 0 := hex rfl
      subst hn'
      have hr : rows = [] := List.eq_nil_of_length_eq_zero hn
      subst hr
      refine ⟨⟨G.bl.take objs.length ++ [.full 0], G.imm⟩, fin _ (by intro b hb; cases hb) (by intro b hb; cases hb) (.inl ⟨rfl, 0, rfl⟩) ?_⟩
      obtain ⟨a', c', he, hc, hmx, _⟩ := hd
      rw [he]
      exact .bsl0 _ _ _ _ hmx
    · refine ⟨⟨G.bl.take objs.length ++ [.obj b], G.imm⟩, fin _ ?_ ?_ ?_ ?_⟩
      · intro b' hb'
        simp [GB.blk] at hb'; subst hb'
        exact hf.step.blk _ _ _ hg rfl
      · intro b' hb'
        simp [GB.blk] at hb'; subst hb'
        refine ⟨hm.lt _ _ _ hg rfl, fun o g'' hg'' hbb => ?_⟩
        obtain ⟨hol, hg3⟩ := take_get' hg''
        have := hm.inj _ _ _ _ _ hg3 hg hbb rfl
        omega
      · obtain ⟨a', c', he, hc, hmx, hrow⟩ := hd
        have hv2 : a.tmps.toList[i] = .slice (some ⟨b, 0, none⟩) n cap := by
          rcases ht with ⟨l, k1, _⟩ | ⟨b', l, c, sz', ex, k1, k2, k3⟩
          · rw [hg] at k1; cases k1
          · rw [hg] at k1; cases k1; exact k3 hn
        refine .inr ⟨b, cur, e, rfl, hh, ?_, ?_, hc4 rfl⟩
        · rcases hrow with rfl | ⟨b2, st, s2, ha, hr1, hr2⟩
          · simp [rowCells]
          · rw [hv2] at he; cases he; cases ha
            rcases Nat.eq_zero_or_pos (rowCells rows).length with h0 | h0
            · omega
            · have hlt : (rowCells rows).length - 1 < rows.flatten.length := by simp only [rowCells, List.length_map] at h0 ⊢; omega
              obtain ⟨p, q, r, k1, k2, k3⟩ := flat_get hr1 (List.getElem?_eq_getElem hlt)
              obtain ⟨x, hx, _⟩ := hr2 p q r _ k1 k2
              simp only [Nat.zero_add, ← k3] at hx
              have := cell_cells hh ((rowCells rows).length - 1)
              rw [this] at hx
              rcases Nat.lt_or_ge ((rowCells rows).length - 1) cur.size with hz | hz
              · omega
              · rw [Array.getElem?_eq_none hz] at hx; cases hx
        · intro j x v hj hv
          rcases hrow with rfl | ⟨b2, st, s2, ha, hr1, hr2⟩
          · simp [rowCells] at hj
          · rw [hv2] at he; cases he; cases ha
            simp only [rowCells, List.getElem?_map] at hj
            cases hd : rows.flatten[j]? with
            | none => simp [hd] at hj
            | some d =>
              simp only [hd, Option.map_some, Option.some.injEq] at hj
              subst hj
              obtain ⟨p, q, r, k1, k2, k3⟩ := flat_get hr1 hd
              obtain ⟨x', hx, _, hdc⟩ := hr2 p q r _ k1 k2
              simp only [Nat.zero_add, ← k3] at hx
              rw [cell_cells hh j, hv] at hx
              cases hx
              exact ⟨hdc.one, ofD_conc (G := ⟨G.bl.take objs.length ++ [.obj b], G.imm⟩) hdc⟩
      · have hv2 : a.tmps.toList[i] = .slice (some ⟨b, 0, none⟩) n cap := by
          rcases ht with ⟨l, k1, _⟩ | ⟨b', l, c, sz', ex, k1, k2, k3⟩
          · rw [hg] at k1; cases k1
          · rw [hg] at k1; cases k1; exact k3 hn
        rw [hv2]
        exact .bsl _ _ _ _ b (by rw [List.getElem?_append_right (by omega)]; simp [htl]) hc2 hc3

/-- It is not written any more. -/
theorem Weak.pubbox {n0 : Nat} {tmps : List AV} {objs : List Obj} (i : Nat) {rows : List (List D)} {n sz : Nat} (hi : tmps[i]? = some (.bsl objs.length 0 n)) (hn : rows.length = n)
    (hsz : ∀ r ∈ rows, r.length = sz)
    (hn0 : n0 ≤ objs.length) (h1 : AV.idsLtL objs.length (tmps.set i .any) = true) (h2 : belowObjs objs.length objs = true) :
    Weak n0 ⟨tmps, objs ++ [.box (rowCells rows)]⟩ ⟨tmps.set i (.sl rows .none), objs⟩ := by
  intro G0 w0 G a w hl0 hf
  have hm := hf.sat.mem
  have hlen : G.bl.length = objs.length + 1 := by rw [hm.len]; simp
  have hst := hf.step.trunc (n := objs.length) (by omega)
  have hm' := hm.trunc h2
  have hszr : ∀ (i : Nat) (r : List D), rows[i]? = some r → r.length = sz := fun i r h => hsz r (List.mem_of_getElem? h)
  have htm : ConcL ⟨G.bl.take objs.length, G.imm⟩ w (tmps.set i .any) a.tmps.toList := by
    have := (hf.sat.tmps.set i (x := .any) (v := a.tmps.toList[i]?.getD undef) (.any _))
    have hself : a.tmps.toList.set i (a.tmps.toList[i]?.getD undef) = a.tmps.toList := by
      cases hq : a.tmps.toList[i]? with
      | none => rw [List.set_eq_of_length_le]; exact List.getElem?_eq_none_iff.1 hq
      | some v => exact list_set_self (by simpa using hq)
    rw [hself] at this
    exact ⟨this.1, fun j x v hx hv => (this.2 j x v hx hv).trunc (belowL_get h1 j x hx)⟩
  have hil : i < a.tmps.toList.length := by
    rw [hf.sat.tmps.1]
    rcases Nat.lt_or_ge i tmps.length with hl | hl
    · exact hl
    · rw [List.getElem?_eq_none hl] at hi; cases hi
  have hself : a.tmps.toList.set i a.tmps.toList[i] = a.tmps.toList := list_set_self (List.getElem?_eq_getElem hil)
  have hv := hf.sat.tmps.2 i _ _ hi (List.getElem?_eq_getElem hil)
  obtain ⟨g, hg, hok⟩ := hm.obj (o := objs.length) (x := .box (rowCells rows)) (by simp)
  generalize a.tmps.toList[i] = v at hv hself
  have empty : rows = [] → ∃ G', From G0 w0 G' ⟨tmps.set i (.sl rows .none), objs⟩ a w := by
    intro hr
    refine ⟨⟨G.bl.take objs.length, G.imm⟩, hst, hm', ?_, hf.sat.defers⟩
    have hc : Conc ⟨G.bl.take objs.length, G.imm⟩ w (.sl rows .none) v := by
      subst hr
      subst hn
      cases hv with
      | bsl _ _ _ cap b h h1 h2 => exact .sl _ _ _ (SlC.nil _ _ h2) trivial
      | bsl0 _ _ cap a h2 => exact .sl _ _ _ (SlC.nil _ _ h2) trivial
    have := htm.set i hc
    rw [hself] at this
    simpa using this
  rcases Nat.eq_zero_or_pos rows.length with hz | hpos
  · exact empty (List.eq_nil_of_length_eq_zero hz)
  cases hv with
  | bsl0 _ _ cap a h2 => omega
  | bsl _ _ _ cap b hb hcap hmx =>
    rw [hb] at hg; cases hg
    rcases hok with ⟨hce, l, hl⟩ | ⟨b', c, e, hbe, hh, hs, hc, him⟩
    · cases hl
    cases hbe
    let imm' : Nat → Nat → Prop := fun b' off => G.imm b' off ∨ (b' = b ∧ off < (rowCells rows).length)
    have hsub : ∀ b' off, G.imm b' off → imm' b' off := fun _ _ h => .inl h
    have hblk : b < w.heap.size := hm.lt _ _ _ hb rfl
    have hother : ∀ (o : Nat) (g : GB) (b' : Nat), (G.bl.take objs.length)[o]? = some g → g.blk = some b' → b' ≠ b := by
      rintro o g b' hg hbb rfl
      obtain ⟨hol, hg3⟩ := take_get' hg
      have := hm.inj _ _ _ _ _ hg3 hb hbb rfl
      omega
    have hext : Ext ⟨G.bl.take objs.length, G.imm⟩ w ⟨G.bl.take objs.length, imm'⟩ w :=
      ⟨fun _ _ _ _ => rfl, im_of_sub (fun _ _ h => h) hsub, fun _ _ h => h, fun _ _ h => .inl h, fun _ b l c sz ex h => ⟨b, l, c, sz, ex, h, .inr ⟨rfl, rfl, rfl⟩⟩⟩
    refine ⟨⟨G.bl.take objs.length, imm'⟩, ⟨hst.ext.trans hext, hst.heap, hst.size, hst.os, hst.tape, hst.output, ?_, hst.blk⟩, ⟨hm'.len, ?_, hm'.inj, hm'.lt, ?_⟩, ?_, hf.sat.defers⟩
    · rintro b' off (h | ⟨rfl, _⟩)
      · exact hst.imm2 b' off h
      · exact .inr (hf.step.blk _ _ _ hb rfl)
    · intro o x g hx hg
      refine (hm'.ok o x g hx hg).mono hext (fun _ _ => rfl) ?_
      intro b' hbb off h
      rcases h with h | ⟨rfl, _⟩
      · exact h
      · exact (hother o g _ hg hbb rfl).elim
    · rintro b' off (h | ⟨rfl, _⟩)
      · exact hm.immLt b' off h
      · exact hblk
    · have hfl := flat_len hszr
      have hcv : Conc ⟨G.bl.take objs.length, imm'⟩ w (.sl rows .none) (.slice (some ⟨b, 0, none⟩) n cap) := by
        refine .sl rows .none _ ⟨_, cap, by rw [hn], by omega, hmx, .inr ⟨b, 0, sz, rfl, hszr, ?_⟩⟩ trivial
        intro p q r d hr hd
        have hq : q < sz := by
          rw [← hszr p r hr]
          rcases Nat.lt_or_ge q r.length with h | h
          · exact h
          · rw [List.getElem?_eq_none h] at hd; cases hd
        have hp : p < rows.length := by
          rcases Nat.lt_or_ge p rows.length with h | h
          · exact h
          · rw [List.getElem?_eq_none h] at hr; cases hr
        have hpq : p * sz + q < rows.length * sz := by
          have : p * sz + sz ≤ rows.length * sz := by rw [← Nat.succ_mul]; exact Nat.mul_le_mul_right sz hp
          omega
        have hfg : rows.flatten[p * sz + q]? = some d := flat_of_row hszr hr hd
        have hcell : (rowCells rows)[p * sz + q]? = some (.ofD d) := by rw [rowCells, List.getElem?_map, hfg]; rfl
        have hlt : p * sz + q < c.size := by
          have : (rowCells rows).length = rows.length * sz := rowCells_len hszr
          omega
        obtain ⟨e1, e2⟩ := hc _ _ _ hcell (Array.getElem?_eq_getElem hlt)
        refine ⟨c[p * sz + q], ?_, (show imm' b (0 + p * sz + q) from Or.inr ⟨rfl, ?_⟩), ?_⟩
        · rw [cell_cells hh]; simp [hlt]
        · rw [rowCells_len hszr]; omega
        · have hd2 := conc_ofD e2
          exact hd2.mono (fun _ _ _ => rfl) hsub
      have hset := (htm.mono hext).set i hcv
      rw [hself] at hset
      simpa using hset

end Go.Proofs.Ytickejlolpoboaa.AM
namespace Go.Proofs.Ytickejlolpoboaa.AM
open Go
/-- The answer may be weakened. -/
theorem ACall.ret_weak {P : Program} {f : Nat} {args : List AV} {x y : AV} {o o' : List Obj} (h : Fun P f args x o) (hw : Weak 0 ⟨[x], o⟩ ⟨[y], o'⟩) : Fun P f args y o' := by
  intro G w vs hm hc
  have hm0 : Mem ⟨[], G.imm⟩ [] w := ⟨rfl, fun o x g h => by simp at h, fun o o' g g' b h => by simp at h, fun o g b h => by simp at h, hm.immLt⟩
  have hG : G = ⟨[], G.imm⟩ := by
    have := hm.len
    obtain ⟨bl, imm⟩ := G
    have : bl = [] := List.eq_nil_of_length_eq_zero this
    subst this; rfl
  refine (h G w vs hm hc).mono ?_
  rintro e w' ⟨ae, objs', G', ⟨rfl, rfl⟩, hm', hst, hend⟩
  cases e with
  | returned v =>
    obtain ⟨G2, k1, k2⟩ := hw G w G' { tmps := #[v], defers := [] } w' (by rw [hG]; rfl) ⟨hst, hm', ⟨rfl, fun i c u hc hu => by
      match i with
      | 0 => simp at hc hu; subst hc; subst hu; exact hend
      | n + 1 => simp at hc⟩, rfl⟩
    exact ⟨_, _, G2, ⟨rfl, rfl⟩, k2.mem, k1, k2.tmps.2 0 y v rfl rfl⟩
  | panicked c => exact hend.elim
  | outgrown => exact hend.elim
theorem kappW {P : Program} {n0 : Nat} {Q : AX → AS → Prop} {E : AV → List Obj → Prop} {y : Code} {K : AS → Prop} (hK : ∀ s' s1, Weak n0 s' s1 → awp P n0 y s1 Q E → K s') {s : AS} (s1 : AS) (hw : Weak n0 s s1) (h : awp P n0 y s1 Q E) : K s := hK _ _ hw h
end Go.Proofs.Ytickejlolpoboaa.AM
