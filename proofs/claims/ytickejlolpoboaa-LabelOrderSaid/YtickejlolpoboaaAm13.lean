/- append, in abstract terms: the whole. -/
import Derived.Test.YtickejlolpoboaaAm12
set_option linter.all false
namespace Go.Proofs.Ytickejlolpoboaa.AM
open Go

theorem take_append_zero (olds news : List Value) (l : List Value) : (olds ++ news ++ l).take (olds ++ news).length = olds ++ news := List.take_left

theorem list_set_self {α : Type} : ∀ {l : List α} {o : Nat} {x : α}, l[o]? = some x → l.set o x = l
  | [], _, _, h => by simp at h
  | a :: l, 0, x, h => by simp at h; subst h; rfl
  | a :: l, o + 1, x, h => by
    simp only [List.getElem?_cons_succ] at h
    rw [List.set_cons_succ, list_set_self h]

/-- A row that may not be written behind its end, or is none: a new object. -/
theorem append_new {P : Program} {G : Ghost} {objs : List Obj} {w : World} (hm : Mem G objs w) {t xt e : TypeId} {i j : TI} (hi : ti P t = some i) (hd : i.desc = .slice e) (hj : ti P e = some j) (hs0 : 0 < j.size) (hb0 : 0 < j.bytes)
    {rows rows2 : List (List D)} {a : Option Addr} {vx : Value} {news : List Value} {i2 : Nat → Nat → Prop} (hr : ∀ r ∈ rows, r.length = j.size) (hr2 : ∀ r ∈ rows2, r.length = j.size)
    (hdc : SlC w G.imm G.imm rows (.slice a rows.length rows.length)) (hsrc : Src P w i2 G.imm j.size rows2 vx news) {dx : TypeDesc} (hx : P.underlying xt = some dx) (hdx : dx = .slice e ∨ dx = .string)
    (hbd : (rows.length + rows2.length) * j.bytes ≤ 140737488355328) (ty : TypeId) :
    ∃ r G' w', (Builtin.append_ #[t, xt] ty #[.slice a rows.length rows.length, vx]).run P w = .ok r w' ∧ Step G w G' w' ∧
      Mem G' (objs ++ [.tok (rows.length + rows2.length) j.size e rows.isEmpty]) w' ∧ Conc G' w' (.sl (rows ++ rows2) (.own objs.length)) r := by
  have pt : P.underlying t = some (.slice e) := by rw [(ti_spec hi).1, hd]
  obtain ⟨_, f, z, hf, hz, hfs, hfb, hzc, hzl, _⟩ := ti_spec hj
  have hall : ∀ r ∈ rows ++ rows2, r.length = j.size := by
    intro r hrr
    rcases List.mem_append.1 hrr with h | h
    · exact hr r h
    · exact hr2 r h
  have hemp : rows.isEmpty = true → rows.length = 0 := by intro h; simpa using h
  by_cases hm0 : rows2.length = 0
  · have h2 : rows2 = [] := List.eq_nil_of_length_eq_zero hm0
    subst h2
    have hnews : news = [] := List.eq_nil_of_length_eq_zero (by simpa using hsrc.flat.1)
    subst hnews
    have hrun := append_same (P := P) w t xt ty e f pt dx hx hdx hf vx 0 (fun w0 => by simpa using hsrc.len w0) a rows.length rows.length rfl (by rw [hfs]; exact hsrc.cells w (fun _ _ _ => rfl)) (Nat.le_refl _)
    refine ⟨_, ⟨G.bl ++ [.full (rows.length + 0)], G.imm⟩, w, hrun, (Step.refl G w).push _ (by intro b hb; cases hb), Mem.push hm (.inl ⟨rfl, fun h => by have := hemp h; simp only [List.length_nil]; omega⟩) (by intro b hb; cases hb), ?_⟩
    rw [List.append_nil]
    refine .sl rows _ _ (hdc.mono (fun _ _ _ => rfl) (fun b off h => .inl h) (fun _ _ _ => rfl) (fun _ _ h => h)) (.inl ⟨rows.length, ?_, Nat.le_refl _, fun _ => ⟨a, rfl⟩⟩)
    rw [← hm.len]; simp
  · have hmax : rows.length + rows2.length ≤ maxLen := by
      have : rows.length + rows2.length ≤ (rows.length + rows2.length) * j.bytes := Nat.le_mul_of_pos_right _ hb0
      simp only [maxLen]; omega
    obtain ⟨olds, hsold⟩ := src_slice (P := P) hs0 hr hdc
    obtain ⟨cap, hcap, hle, hcm, w', hw', imm', hst, hmem, hra, himm1, himm2, hhh, hcsz⟩ := grow_step (P := P) hm hj hs0 hall (hsold.flat.append hr hsrc.flat) (rows.length + rows2.length) rows.length (by simp) hmax z.cells (by rw [hzc]; simp [hzl]) rows.isEmpty
    have hrun := append_grow (P := P) w t xt ty e f z pt dx hx hdx hf hz vx rows2.length hsrc.len news a rows.length rows.length olds
      (by rw [hfs]; exact hsrc.cells w.drew (fun _ _ _ => rfl)) (by rw [hfs]; exact hsold.cells w.drew (fun _ _ _ => rfl)) (by omega) (by simp only [maxLen] at hmax; omega)
      (by rw [hfb]; exact growslice_fits (by omega) hbd)
    rw [← hcap] at hrun
    have hgo : (G.bl ++ [GB.tok w.heap.size (rows.length + rows2.length) cap j.size rows.isEmpty])[objs.length]? = some (.tok w.heap.size (rows.length + rows2.length) cap j.size rows.isEmpty) := by
      rw [← hm.len]; simp
    refine ⟨.slice (some ⟨w.heap.size, 0, none⟩) (rows.length + rows2.length) cap, ⟨G.bl ++ [.tok w.heap.size (rows.length + rows2.length) cap j.size rows.isEmpty], imm'⟩, w', ?_, hst.push _ (by intro b hb; simp [GB.blk] at hb; omega), ?_, ?_⟩
    · rw [hrun, hw']
      simp
    · refine Mem.push (G := ⟨G.bl, imm'⟩) hmem ?_ ?_
      · exact .inr ⟨w.heap.size, cap, _, rfl, hhh, hcsz, hle, hcm, himm1, fun h off hi => (himm2 h off).1 hi⟩
      · intro b hb
        simp [GB.blk] at hb
        subst hb
        refine ⟨by rw [hw']; simp, fun o g hg hbb => ?_⟩
        have := hm.lt o g _ hg hbb
        omega
    · refine .sl _ _ _ ⟨some ⟨w.heap.size, 0, none⟩, cap, by rw [List.length_append], by rw [List.length_append]; exact hle, hcm, .inr ⟨w.heap.size, 0, j.size, rfl, ?_⟩⟩ (.inr ⟨w.heap.size, rows.length + rows2.length, cap, j.size, _, hgo, by rw [List.length_append]; exact Nat.le_refl _, fun _ => rfl⟩)
      refine hra.mono (fun _ _ _ => rfl) ?_ (fun _ _ _ => rfl) (fun _ _ h => h)
      rintro b off (h | ⟨rfl, h⟩)
      · exact .inl h
      · cases hex : rows.isEmpty
        · exact .inl ((himm2 hex off).2 h)
        · exact .inr ⟨_, _, _, by rw [← hex]; exact hgo, h⟩

theorem append_sound {P : Program} {G : Ghost} {objs : List Obj} {w : World} {t xt : TypeId} {s x : AV} {vs vx : Value} {k : AV → List Obj → Prop}
    (h : appendAV P t xt objs s x k) (hm : Mem G objs w) (hs : Conc G w s vs) (hx : Conc G w x vx) (ty : TypeId) :
    ∃ r y objs' G' w', (Builtin.append_ #[t, xt] ty #[vs, vx]).run P w = .ok r w' ∧ Step G w G' w' ∧ Mem G' objs' w' ∧ Conc G' w' y r ∧ k y objs' := by
  unfold appendAV at h
  split at h
  · rename_i i hi
    split at h
    · rename_i e hd
      split at h
      · rename_i j hj
        split at h
        · rename_i rows2 happ
          obtain ⟨hs0, hb0, hr2, h⟩ := h
          obtain ⟨⟨i2, news, hi2, hsrc⟩, dx, hxt, hdx⟩ := append_src hi hd hj hs0 happ hr2 hx
          split at h
          · obtain ⟨hbd, hk⟩ := h
            cases hs
            obtain ⟨r, G', w', h1, h2, h3, h4⟩ := append_new (P := P) hm hi hd hj hs0 hb0 (rows := []) (by simp) hr2 (SlC.nil none 0 (by simp [maxLen])) hsrc hxt hdx (by simpa using hbd) ty
            refine ⟨r, _, _, G', w', h1, h2, h3, h4, ?_⟩
            simpa using hk
          · obtain ⟨hr, hbd, hk⟩ := h
            cases hs with
            | sl _ _ _ hdc htk =>
              obtain ⟨a, rfl⟩ := htk
              obtain ⟨r, G', w', h1, h2, h3, h4⟩ := append_new (P := P) hm hi hd hj hs0 hb0 hr hr2 hdc hsrc hxt hdx hbd ty
              exact ⟨r, _, _, G', w', h1, h2, h3, h4, hk⟩
          · rename_i rows o
            split at h
            · rename_i len sz e' ex hob
              obtain ⟨rfl, rfl, rfl, hr, hbd, hk⟩ := h
              have hall : ∀ r ∈ rows ++ rows2, r.length = j.size := by
                intro r hrr
                rcases List.mem_append.1 hrr with h | h
                · exact hr r h
                · exact hr2 r h
              have hmax : rows.length + rows2.length ≤ maxLen := by
                have : rows.length + rows2.length ≤ (rows.length + rows2.length) * j.bytes := Nat.le_mul_of_pos_right _ hb0
                simp only [maxLen]; omega
              have pt : P.underlying t = some (.slice e') := by rw [(ti_spec hi).1, hd]
              obtain ⟨_, f, z, hf, hz, hfs, hfb, hzc, hzl, _⟩ := ti_spec hj
              have hlo := hm.lt_objs hob
              have hlb : o < G.bl.length := by rw [hm.len]; exact hlo
              -- the row grows: what o has is a new block; what lay in the old one never changes any more
              have hgrow : ∀ (a : Option Addr) (cap0 : Nat) (g0 : GB), SlC w (G.im (.own o)) G.imm rows (.slice a rows.length cap0) → cap0 < rows.length + rows2.length → G.bl[o]? = some g0 →
                  (g0 = .full rows.length ∨ ∃ b c, g0 = .tok b rows.length c j.size ex) → 0 < rows2.length →
                  ∃ r y objs' G' w', (Builtin.append_ #[t, xt] ty #[.slice a rows.length cap0, vx]).run P w = .ok r w' ∧ Step G w G' w' ∧ Mem G' objs' w' ∧ Conc G' w' y r ∧ k y objs' := by
                intro a cap0 g0 hdc hc0 hg0 hshape hpos
                obtain ⟨olds, hsold⟩ := src_slice (P := P) hs0 hr hdc
                obtain ⟨cap, hcap, hle, hcm, w', hw', imm', hst, hmem, hra, himm1, himm2, hhh, hcsz⟩ := grow_step (P := P) hm hj hs0 hall (hsold.flat.append hr hsrc.flat) (rows.length + rows2.length) cap0 (by simp) hmax z.cells (by rw [hzc]; simp [hzl]) ex
                have hrun := append_grow (P := P) w t xt ty e' f z pt dx hxt hdx hf hz vx rows2.length hsrc.len news a rows.length cap0 olds
                  (by rw [hfs]; exact hsrc.cells w.drew (fun _ _ _ => rfl)) (by rw [hfs]; exact hsold.cells w.drew (fun _ _ _ => rfl)) hc0 (by simp only [maxLen] at hmax; omega)
                  (by rw [hfb]; exact growslice_fits hc0 hbd)
                rw [← hcap] at hrun
                let imm2 : Nat → Nat → Prop := fun b off => imm' b off ∨ ∃ c, g0 = .tok b rows.length c j.size ex ∧ off < rows.length * j.size
                have hself : (G.bl.set o (.tok w.heap.size (rows.length + rows2.length) cap j.size ex))[o]? = some (.tok w.heap.size (rows.length + rows2.length) cap j.size ex) := by
                  rw [List.getElem?_set, if_pos rfl, if_pos hlb]
                have hext : Ext ⟨G.bl, imm'⟩ w' ⟨G.bl.set o (.tok w.heap.size (rows.length + rows2.length) cap j.size ex), imm2⟩ w' := by
                  refine ext_set (G := ⟨G.bl, imm'⟩) (fun _ _ h => .inl h) hg0 ?_ ?_
                  · intro b off hi
                    rcases hi with hi | ⟨l, c, sz, h1, h2⟩
                    · exact .inl (.inl hi)
                    · have h1' : G.bl[o]? = some (.tok b l c sz true) := h1
                      rw [hg0] at h1'
                      rcases hshape with rfl | ⟨b', c', rfl⟩
                      · cases h1'
                      · cases h1'; exact .inl (.inr ⟨_, rfl, h2⟩)
                  · rcases hshape with rfl | ⟨b, c, rfl⟩
                    · exact .inl ⟨_, rfl, .inr ⟨_, _, _, _, _, rfl, by omega⟩⟩
                    · exact .inr ⟨_, _, _, _, _, rfl, _, _, _, _, _, rfl, .inl (by omega)⟩
                refine ⟨.slice (some ⟨w.heap.size, 0, none⟩) (rows.length + rows2.length) cap, .sl (rows ++ rows2) (.own o), objs.set o (.tok (rows.length + rows2.length) j.size e' ex), ⟨G.bl.set o (.tok w.heap.size (rows.length + rows2.length) cap j.size ex), imm2⟩, w', ?_, ?_, ?_, ?_, hk⟩
                · rw [hrun, hw']; simp
                · refine ⟨hst.ext.trans hext, hst.heap, hst.size, hst.os, hst.tape, hst.output, ?_, ?_⟩
                  · intro b off hi
                    rcases hi with hi | ⟨c, hc, _⟩
                    · exact hst.imm2 b off hi
                    · exact .inr (.inr ⟨o, g0, hg0, by rw [hc]; rfl⟩)
                  · intro o' g' b' hg' hb'
                    rcases set_get hg' with ⟨rfl, rfl⟩ | ⟨_, hg'⟩
                    · simp [GB.blk] at hb'; exact .inl (by omega)
                    · exact .inr ⟨o', g', hg', hb'⟩
                · refine Mem.own_set (G := ⟨G.bl, imm'⟩) hmem ?_ (.inr ⟨w.heap.size, cap, _, rfl, hhh, hcsz, hle, hcm, ?_, ?_⟩) hext ?_ ?_
                  · intro b hb
                    simp [GB.blk] at hb
                    subst hb
                    refine ⟨by rw [hw']; simp, fun o' g' _ hg' hbb => ?_⟩
                    have := hm.lt o' g' _ hg' hbb
                    omega
                  · intro hex off hi
                    rcases hi with hi | ⟨c, hc, _⟩
                    · exact himm1 hex off hi
                    · have := hm.lt o g0 w.heap.size hg0 (by rw [hc]; rfl)
                      omega
                  · intro hex off hi
                    rcases hi with hi | ⟨c, hc, _⟩
                    · exact (himm2 hex off).1 hi
                    · have := hm.lt o g0 w.heap.size hg0 (by rw [hc]; rfl)
                      omega
                  · intro b off hi
                    rcases hi with hi | ⟨c, hc, _⟩
                    · exact hmem.immLt b off hi
                    · exact hmem.lt o g0 b hg0 (by rw [hc]; rfl)
                  · intro o' g' b hne hg' hbb off hi
                    rcases hi with hi | ⟨c, hc, _⟩
                    · exact hi
                    · exact (hne (hm.inj o' o g' g0 b hg' hg0 hbb (by rw [hc]; rfl))).elim
                · refine .sl _ _ _ ⟨some ⟨w.heap.size, 0, none⟩, cap, by rw [List.length_append], by rw [List.length_append]; exact hle, hcm, .inr ⟨w.heap.size, 0, j.size, rfl, ?_⟩⟩
                    (.inr ⟨w.heap.size, rows.length + rows2.length, cap, j.size, ex, hself, by rw [List.length_append]; exact Nat.le_refl _, fun _ => rfl⟩)
                  refine hra.mono (fun _ _ _ => rfl) ?_ (fun _ _ _ => rfl) (fun _ _ h => .inl h)
                  rintro b off (h | ⟨rfl, h⟩)
                  · exact .inl (.inl h)
                  · cases hex : ex
                    · exact .inl (.inl ((himm2 hex off).2 h))
                    · exact .inr ⟨_, _, _, by rw [← hex]; exact hself, h⟩
              cases hs with
              | sl _ _ _ hdc htk =>
                rcases htk with ⟨l, hl1, hl2, hl3⟩ | ⟨b, l, cap, sz, ex', hl1, hl2, hl3⟩
                · -- no room
                  have hok := hm.ok o _ _ hob hl1
                  have hll : l = rows.length := by
                    rcases hok with ⟨h, _⟩ | ⟨_, _, _, h, _⟩
                    · cases h; rfl
                    · cases h
                  subst hll
                  obtain ⟨a, rfl⟩ := hl3 rfl
                  by_cases hm0 : rows2.length = 0
                  · have h2 : rows2 = [] := List.eq_nil_of_length_eq_zero hm0
                    subst h2
                    have hnews : news = [] := List.eq_nil_of_length_eq_zero (by simpa using hsrc.flat.1)
                    subst hnews
                    have hrun := append_same (P := P) w t xt ty e' f pt dx hxt hdx hf vx 0 (fun w0 => by simpa using hsrc.len w0) a rows.length rows.length rfl (by rw [hfs]; exact hsrc.cells w (fun _ _ _ => rfl)) (Nat.le_refl _)
                    refine ⟨_, _, _, G, w, hrun, Step.refl G w, ?_, ?_, hk⟩
                    · have : objs.set o (.tok (rows.length + ([] : List (List D)).length) j.size e' ex) = objs := by
                        simp only [List.length_nil, Nat.add_zero]
                        exact list_set_self hob
                      rw [this]; exact hm
                    · rw [List.append_nil]
                      exact .sl rows _ _ hdc (.inl ⟨_, hl1, Nat.le_refl _, fun _ => ⟨a, rfl⟩⟩)
                  · exact hgrow a rows.length _ hdc (by omega) hl1 (.inl rfl) (by omega)
                · -- a row of one's own
                  have hok := hm.ok o _ _ hob hl1
                  rcases hok with ⟨h, _⟩ | ⟨b', cap', cur, h, hh, hcs, hlc, hcm, him1, him2⟩
                  · cases h
                  · cases h
                    have hv := hl3 rfl
                    subst hv
                    by_cases hroom : rows.length + rows2.length ≤ cap
                    · have holds : ∃ olds, Flat w G.imm j.size rows olds ∧ cur.toList.take (rows.length * j.size) = olds := by
                        obtain ⟨a', c', he, _, _, hor⟩ := hdc
                        by_cases hz0 : rows = []
                        · subst hz0; exact ⟨[], Flat.nil _ _ _, by simp⟩
                        · rcases hor with h0 | ⟨b2, st, sz, ha, hra⟩
                          · exact (hz0 h0).elim
                          · cases he; cases ha
                            have hsz : sz = j.size := by
                              cases rows with
                              | nil => exact (hz0 rfl).elim
                              | cons r rs => rw [← hra.1 0 r rfl]; exact hr r (by simp)
                            subst hsz
                            obtain ⟨olds, hfl, hcl⟩ := hra.flat hs0
                            refine ⟨olds, hfl, ?_⟩
                            apply List.ext_getElem?
                            intro q
                            rcases Nat.lt_or_ge q (rows.length * j.size) with hq | hq
                            · have hq' : q < olds.length := by rw [hfl.1]; exact hq
                              have := (hcl q _ (List.getElem?_eq_getElem hq')).1
                              rw [cell_at hh, Nat.zero_add] at this
                              rw [List.getElem?_take, if_pos hq, List.getElem?_eq_getElem hq', ← this]
                              simp
                            · rw [List.getElem?_eq_none (by simp; omega), List.getElem?_eq_none (by rw [hfl.1]; exact hq)]
                      obtain ⟨olds, hfl, hcur⟩ := holds
                      have hfit : rows.length * j.size + news.length ≤ cur.size := by
                        rw [hsrc.flat.1, hcs, ← Nat.add_mul]; exact Nat.mul_le_mul_right _ hroom
                      have hrun := append_room (P := P) w t xt ty e' f pt dx hxt hdx hf vx rows2.length hsrc.len news b rows.length cap cur hh (by rw [hfs]; exact hsrc.cells w (fun _ _ _ => rfl)) hsrc.flat.2.1 hroom (by rw [hfs]; exact hfit)
                      rw [hfs] at hrun
                      obtain ⟨G', k0, k1, k2, k3⟩ := room_step hm hall (hfl.append hr hsrc.flat) hfl.1 hob hl1 hh hcs hroom hcm him1 him2 hcur
                      refine ⟨_, _, _, G', _, hrun, k1, k2, ?_, hk⟩
                      exact .sl _ _ _ ⟨some ⟨b, 0, none⟩, cap, by rw [List.length_append], by rw [List.length_append]; exact hroom, hcm, .inr ⟨b, 0, j.size, rfl, k3⟩⟩
                        (.inr ⟨b, rows.length + rows2.length, cap, j.size, ex, k0, by rw [List.length_append]; exact Nat.le_refl _, fun _ => rfl⟩)
                    · exact hgrow _ cap _ hdc (by omega) hl1 (.inr ⟨b, cap, rfl⟩) (by omega)
            · exact h.elim
          · exact h.elim
        · exact h.elim
      · exact h.elim
    · exact h.elim
  · exact h.elim

end Go.Proofs.Ytickejlolpoboaa.AM
