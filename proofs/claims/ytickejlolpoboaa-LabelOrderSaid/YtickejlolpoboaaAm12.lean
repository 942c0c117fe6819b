/- append, in abstract terms: that the model does so. -/
import Derived.Test.YtickejlolpoboaaAm11
set_option linter.all false
namespace Go.Proofs.Ytickejlolpoboaa.AM
open Go

theorem Mem.lt_objs {G : Ghost} {objs : List Obj} {w : World} (_hm : Mem G objs w) {o : Nat} {x : Obj} (h : objs[o]? = some x) : o < objs.length := by
  rcases Nat.lt_or_ge o objs.length with hl | hl
  · exact hl
  · rw [List.getElem?_eq_none hl] at h; cases h

theorem set_get {α : Type} {l : List α} {o o' : Nat} {g g' : α} (h : (l.set o g)[o']? = some g') : (o' = o ∧ g' = g) ∨ (o' ≠ o ∧ l[o']? = some g') := by
  rw [List.getElem?_set] at h
  by_cases he : o = o'
  · subst he
    rw [if_pos rfl] at h
    split at h
    · cases h; exact .inl ⟨rfl, rfl⟩
    · cases h
  · rw [if_neg he] at h; exact .inr ⟨fun e => he e.symm, h⟩

/-- There is room in the row: the new cells are written behind the old ones. -/
theorem room_step {G : Ghost} {objs : List Obj} {w : World} (hm : Mem G objs w) {e sz : Nat} {ex : Bool} {rows rows2 : List (List D)} {olds news : List Value}
    (hs : ∀ r ∈ rows ++ rows2, r.length = sz) (hf : Flat w G.imm sz (rows ++ rows2) (olds ++ news)) (hlo : olds.length = rows.length * sz) {o b cap : Nat} {cur : Array Value}
    (ho : objs[o]? = some (.tok rows.length sz e ex)) (hg : G.bl[o]? = some (.tok b rows.length cap sz ex)) (hh : w.heap[b]? = some (.cells cur e (0, 0))) (hcs : cur.size = cap * sz)
    (hroom : rows.length + rows2.length ≤ cap) (hcm : cap ≤ maxLen) (him1 : ex = true → ∀ off, ¬ G.imm b off) (him2 : ex = false → ∀ off, G.imm b off → off < rows.length * sz) (hcur : cur.toList.take (rows.length * sz) = olds) :
    ∃ G' : Ghost, G'.bl[o]? = some (.tok b (rows.length + rows2.length) cap sz ex) ∧ Step G w G' (w.setRow b (cur.toList.take (rows.length * sz) ++ news ++ cur.toList.drop (rows.length * sz + news.length)).toArray) ∧
      Mem G' (objs.set o (.tok (rows.length + rows2.length) sz e ex)) (w.setRow b (cur.toList.take (rows.length * sz) ++ news ++ cur.toList.drop (rows.length * sz + news.length)).toArray) ∧
      RowsAt (w.setRow b (cur.toList.take (rows.length * sz) ++ news ++ cur.toList.drop (rows.length * sz + news.length)).toArray) (G'.im (.own o)) G'.imm b 0 sz (rows ++ rows2) := by
  generalize hw : (w.setRow b (cur.toList.take (rows.length * sz) ++ news ++ cur.toList.drop (rows.length * sz + news.length)).toArray) = w'
  have hnl : (olds ++ news).length = (rows.length + rows2.length) * sz := by rw [hf.1, List.length_append]
  have hcap : (rows.length + rows2.length) * sz ≤ cap * sz := Nat.mul_le_mul_right sz hroom
  have hmul : rows.length * sz ≤ (rows.length + rows2.length) * sz := Nat.mul_le_mul_right sz (by omega)
  have hh' : w'.heap[b]? = some (.cells (olds ++ news ++ cur.toList.drop (rows.length * sz + news.length)).toArray e (0, 0)) := by
    rw [← hw, setRow_heap w b cur _ e (0, 0) hh, hcur]
  have hother : ∀ k, k ≠ b → w'.heap[k]? = w.heap[k]? := fun k hk => by rw [← hw]; exact setRow_other w b k _ hk
  have hcellold : ∀ off, off < rows.length * sz → w'.cell? ⟨b, off, none⟩ = w.cell? ⟨b, off, none⟩ := by
    intro off hoff
    rw [cell_at hh', cell_at hh]
    have h1 : off < olds.length := by rw [hlo]; exact hoff
    have h2 : off < (olds ++ news).length := by rw [List.length_append]; omega
    rw [List.getElem?_toArray, List.getElem?_append_left h2, List.getElem?_append_left h1, ← hcur, List.getElem?_take, if_pos hoff]
    simp
  have himb : ∀ off, G.imm b off → off < rows.length * sz := by
    intro off hi
    cases ex
    · exact him2 rfl off hi
    · exact (him1 rfl off hi).elim
  have hlb : o < G.bl.length := by rw [hm.len]; exact hm.lt_objs ho
  let imm' : Nat → Nat → Prop := fun b' off => G.imm b' off ∨ (ex = false ∧ b' = b ∧ off < (rows.length + rows2.length) * sz)
  have hself : (G.bl.set o (.tok b (rows.length + rows2.length) cap sz ex))[o]? = some (.tok b (rows.length + rows2.length) cap sz ex) := by
    rw [List.getElem?_set, if_pos rfl, if_pos hlb]
  have hext0 : Ext G w ⟨G.bl, imm'⟩ w' := by
    refine ⟨fun t b' off hi => ?_, im_of_sub (fun _ _ h => h) (fun _ _ h => .inl h), fun _ _ h => h, fun _ _ h => .inl h, fun _ b l c sz ex h => ⟨b, l, c, sz, ex, h, .inr ⟨rfl, rfl, rfl⟩⟩⟩
    by_cases hb : b' = b
    · subst hb
      rcases im_cases hi with hi | ⟨o2, len, c2, sz2, _, h1, h2⟩
      · exact hcellold off (himb off hi)
      · have := hm.inj o o2 _ _ _ hg h1 rfl rfl
        subst this
        rw [hg] at h1; cases h1
        exact hcellold off h2
    · exact cell_of_heap (hother b' hb) off
  have hsize : w'.heap.size = w.heap.size := by rw [← hw]; simp
  have hext1 : Ext ⟨G.bl, imm'⟩ w' ⟨G.bl.set o (.tok b (rows.length + rows2.length) cap sz ex), imm'⟩ w' := by
    refine ext_set (G := ⟨G.bl, imm'⟩) (fun _ _ h => h) hg ?_ (.inr ⟨b, rows.length, cap, sz, ex, rfl, b, _, cap, sz, ex, rfl, ?_⟩)
    · intro b' off hi
      rcases hi with hi | ⟨len, c2, sz2, h1, h2⟩
      · exact .inl hi
      · have h1' : G.bl[o]? = some (.tok b' len c2 sz2 true) := h1
        rw [hg] at h1'; cases h1'
        exact .inr ⟨_, _, _, hself, by omega⟩
    · rcases Nat.eq_zero_or_pos rows2.length with h0 | h0
      · exact .inr ⟨rfl, by omega, rfl⟩
      · exact .inl (by omega)
  refine ⟨⟨G.bl.set o (.tok b (rows.length + rows2.length) cap sz ex), imm'⟩, hself, ⟨hext0.trans hext1, ?_, by omega, by rw [← hw]; rfl, by rw [← hw]; rfl, by rw [← hw]; exact ⟨rfl, Nat.le_refl _⟩, ?_, ?_⟩, ?_, ?_⟩
  · intro k hk hn
    refine hother k ?_
    rintro rfl
    exact hn o _ hg rfl
  · intro b' off hi
    rcases hi with hi | ⟨_, rfl, _⟩
    · exact .inl hi
    · exact .inr (.inr ⟨o, _, hg, rfl⟩)
  · intro o' g' b' hg' hb'
    rcases set_get hg' with ⟨rfl, rfl⟩ | ⟨_, hg'⟩
    · simp [GB.blk] at hb'; subst hb'; exact .inr ⟨_, _, hg, rfl⟩
    · exact .inr ⟨o', g', hg', hb'⟩
  · have hm0 : ∀ (o' : Nat) (x : Obj) (g : GB), o' ≠ o → objs[o']? = some x → G.bl[o']? = some g →
        ObjOk ⟨G.bl.set o (.tok b (rows.length + rows2.length) cap sz ex), imm'⟩ w' g x := by
      intro o' x g hne hx hgx
      have hbne : ∀ b', g.blk = some b' → b' ≠ b := by
        rintro b' hb' rfl
        exact hne (hm.inj o' o g _ _ hgx hg hb' rfl)
      refine (hm.ok o' x g hx hgx).mono (hext0.trans hext1) (fun b' hb' => hother b' (hbne b' hb')) (fun b' hb' off hi => ?_)
      rcases hi with hi | ⟨_, rfl, _⟩
      · exact hi
      · exact (hbne _ hb' rfl).elim
    refine ⟨by simp [hm.len], ?_, ?_, ?_, ?_⟩
    · intro o' x g hx hgx
      by_cases he : o = o'
      · subst he
        rw [List.getElem?_set, if_pos rfl, if_pos (hm.lt_objs ho)] at hx
        cases hx
        rw [hself] at hgx
        cases hgx
        refine .inr ⟨b, cap, _, rfl, hh', ?_, hroom, hcm, ?_, ?_⟩
        · simp only [List.size_toArray, List.length_append, List.length_drop, Array.length_toList, hcs]
          rw [List.length_append] at hnl
          have : rows.length * sz + news.length ≤ cap * sz := by rw [← hlo]; omega
          omega
        · intro hex off hi
          rcases hi with hi | ⟨hf, _⟩
          · exact him1 hex off hi
          · rw [hex] at hf; cases hf
        · intro hex off hi
          rcases hi with hi | ⟨_, _, hi⟩
          · have := him2 hex off hi
            omega
          · exact hi
      · rw [List.getElem?_set, if_neg he] at hx
        simp only [List.getElem?_set, if_neg he] at hgx
        exact hm0 o' x g (fun h => he h.symm) hx hgx
    · intro o1 o2 g1 g2 b' h1 h2 e1 e2
      have back : ∀ (o' : Nat) (g' : GB), (G.bl.set o (.tok b (rows.length + rows2.length) cap sz ex))[o']? = some g' → g'.blk = some b' → ∃ g'', G.bl[o']? = some g'' ∧ g''.blk = some b' := by
        intro o' g' h e
        rcases set_get h with ⟨rfl, rfl⟩ | ⟨_, h⟩
        · exact ⟨_, hg, e⟩
        · exact ⟨g', h, e⟩
      obtain ⟨k1, p1, q1⟩ := back o1 g1 h1 e1
      obtain ⟨k2, p2, q2⟩ := back o2 g2 h2 e2
      exact hm.inj o1 o2 k1 k2 b' p1 p2 q1 q2
    · intro o' g' b' h e
      rw [hsize]
      rcases set_get h with ⟨rfl, rfl⟩ | ⟨_, h⟩
      · simp [GB.blk] at e; subst e; exact hm.lt _ _ b hg rfl
      · exact hm.lt o' g' b' h e
    · intro b' off hi
      rw [hsize]
      rcases hi with hi | ⟨_, rfl, _⟩
      · exact hm.immLt b' off hi
      · exact hm.lt o _ _ hg rfl
  · refine Flat.rowsAt hs (hf.mono hext0.cell hext0.imm) ?_ ?_
    · intro q u hu
      have hq : q < (olds ++ news).length := by
        rcases Nat.lt_or_ge q (olds ++ news).length with hl | hl
        · exact hl
        · rw [List.getElem?_eq_none hl] at hu; cases hu
      rw [cell_at hh', Nat.zero_add, List.getElem?_toArray, List.getElem?_append_left hq]
      exact hu
    · intro q hq
      rw [Nat.zero_add]
      rw [List.length_append] at hq
      cases ex
      · exact .inl (.inr ⟨rfl, rfl, hq⟩)
      · exact .inr ⟨_, _, _, hself, hq⟩

end Go.Proofs.Ytickejlolpoboaa.AM
