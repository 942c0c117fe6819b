/- Reading memory: loads, addresses of fields and elements. -/
import Derived.Test.YtickejlolpoboaaAm3
set_option linter.all false
namespace Go.Proofs.Ytickejlolpoboaa.AM
open Go

theorem ofD_conc {G : Ghost} {w : World} {d : D} {v : Value} (h : DConc w G.imm d v) : Conc G w (.ofD d) v := by
  cases d with
  | v x => cases h with | v _ h => exact .v _ h
  | sl rows => exact .sl rows .none v (DConc.sl_iff.1 h) trivial

def loadAV (P : Program) (objs : List Obj) (t : TypeId) (x : AV) (k : AV → Prop) : Prop :=
  match ti P t with
  | some i =>
    match x with
    | .ptr o off =>
      match objs[o]? with
      | some (.box cells) => off + i.size ≤ cells.length ∧ (if i.isAgg then k (.agg ((cells.drop off).take i.size)) else i.size = 1 ∧ k (cells.getD off .any))
      | _ => False
    | .ep rows r off _ => r < rows.length ∧ off + i.size ≤ (rows.getD r []).length ∧
        (if i.isAgg then k (.agg ((((rows.getD r []).drop off).take i.size).map .ofD)) else i.size = 1 ∧ k (.ofD ((rows.getD r []).getD off default)))
    | _ => False
  | none => False

theorem cell_at {w : World} {b : Nat} {c : Array Value} {e : TypeId} {fr : Nat × Nat} (h : w.heap[b]? = some (.cells c e fr)) (j : Nat) : w.cell? ⟨b, j, none⟩ = c[j]? := by
  simp [World.cell?, h]

theorem Mem.obj {G : Ghost} {objs : List Obj} {w : World} (h : Mem G objs w) {o : Nat} {x : Obj} (ho : objs[o]? = some x) : ∃ g, G.bl[o]? = some g ∧ ObjOk G w g x := by
  have hl : o < G.bl.length := by
    rw [h.len]
    rcases Nat.lt_or_ge o objs.length with hl | hl
    · exact hl
    · rw [List.getElem?_eq_none hl] at ho; cases ho
  exact ⟨_, List.getElem?_eq_getElem hl, h.ok o x _ ho (List.getElem?_eq_getElem hl)⟩

theorem load_sound {P : Program} {G : Ghost} {objs : List Obj} {w : World} {t : TypeId} {x : AV} {v : Value} {k : AV → Prop}
    (h : loadAV P objs t x k) (hm : Mem G objs w) (hx : Conc G w x v) : ∃ r y, (Instr.loadAt t v).run P w = .ok r w ∧ Conc G w y r ∧ k y := by
  unfold loadAV at h
  cases hti : ti P t with
  | none => simp [hti] at h
  | some i =>
    simp only [hti] at h
    cases x <;> try exact h.elim
    case ptr o off =>
      simp only at h
      cases hob : objs[o]? with
      | none => simp [hob] at h
      | some ob =>
        cases ob with
        | box cells =>
          simp only [hob] at h
          obtain ⟨hle, h⟩ := h
          cases hx with
          | ptr _ _ b hb =>
            obtain ⟨g, hg, hok⟩ := hm.obj hob
            rw [hb] at hg; cases hg
            rcases hok with ⟨_, l, hl⟩ | ⟨b', c, e, hbe, hh, hsz, hc, him⟩
            · cases hl
            cases hbe
            simp only [Instr.loadAt, Instr.sureAddr, Sem.run_bind, Sem.run_pure, Result.andThen_ok, loadVar, ti_agg hti, Sem.run_ite]
            by_cases ha : i.isAgg = true
            · simp only [ha, if_true] at h ⊢
              have hl := run_loadCells_list (P := P) w ⟨b, off, none⟩ ((c.toList.drop off).take i.size) (by
                intro j u hu
                rw [Addr.add_lit, cell_at hh]
                rw [List.getElem?_take] at hu
                split at hu
                · simpa using hu
                · cases hu)
              have hlen : ((c.toList.drop off).take i.size).length = i.size := by simp; omega
              rw [hlen] at hl
              refine ⟨.agg ((c.toList.drop off).take i.size).toArray, _, by simp [ti_size hti, hl], .agg _ _ (by simp; omega) ?_ ?_, h⟩
              · intro j u hu
                rw [List.getElem?_take] at hu
                split at hu
                · rename_i hjs
                  rw [List.getElem?_drop] at hu
                  have hj : off + j < cells.length := by omega
                  exact (hc (off + j) cells[off + j] u (List.getElem?_eq_getElem hj) (by simpa using hu)).1
                · cases hu
              · intro j y u hy hu
                rw [List.getElem?_take] at hu hy
                split at hu
                · rename_i hlt
                  rw [if_pos hlt] at hy
                  rw [List.getElem?_drop] at hu hy
                  exact (hc (off + j) y u hy (by simpa using hu)).2
                · cases hu
            · simp only [ha, Bool.false_eq_true, if_false] at h ⊢
              obtain ⟨h1, h⟩ := h
              have hoff : off < c.size := by omega
              have hoff' : off < cells.length := by omega
              refine ⟨c[off], cells[off], ?_, (hc off cells[off] c[off] (List.getElem?_eq_getElem hoff') (by simp [hoff])).2, ?_⟩
              · simp [cell_at hh, hoff]
              · simpa [List.getD_eq_getElem?_getD, List.getElem?_eq_getElem hoff'] using h
        | _ => simp [hob] at h
    case ep rows r off tk =>
      simp only at h
      obtain ⟨hr, hle, h⟩ := h
      cases hx with
      | ep _ _ _ _ b st sz hrows =>
        have hrow : rows[r]? = some rows[r] := List.getElem?_eq_getElem hr
        have hrl := hrows.1 r _ hrow
        have hgetD : rows.getD r [] = rows[r] := by simp [List.getD_eq_getElem?_getD, hrow]
        rw [hgetD] at h hle
        simp only [Instr.loadAt, Instr.sureAddr, Sem.run_bind, Sem.run_pure, Result.andThen_ok, loadVar, ti_agg hti, Sem.run_ite]
        have hcell : ∀ j, j < sz → ∃ d u, rows[r][j]? = some d ∧ w.cell? ⟨b, st + r * sz + j, none⟩ = some u ∧ DConc w G.imm d u := by
          intro j hj
          have hd : rows[r][j]? = some (rows[r][j]'(by omega)) := List.getElem?_eq_getElem (by omega)
          obtain ⟨u, hu, _, hc⟩ := hrows.2 r j _ _ hrow hd
          exact ⟨_, u, hd, hu, hc⟩
        by_cases ha : i.isAgg = true
        · simp only [ha, if_true] at h ⊢
          have hl := run_loadCells (P := P) w ⟨b, st + r * sz + off, none⟩ i.size (fun j => (w.cell? ⟨b, st + r * sz + off + j, none⟩).getD undef) (by
            intro j hj
            obtain ⟨d, u, _, hu, _⟩ := hcell (off + j) (by omega)
            rw [Addr.add_lit]
            rw [show st + r * sz + off + j = st + r * sz + (off + j) from by omega, hu]; rfl)
          refine ⟨.agg _, _, by simp [ti_size hti, hl]; rfl, ?_, h⟩
          have hfin := Conc.agg (G := G) (w := w) ((((rows[r]).drop off).take i.size).map .ofD) ((List.range i.size).map fun j => (w.cell? ⟨b, st + r * sz + off + j, none⟩).getD undef) (by simp; omega) ?_ ?_
          · simpa using hfin
          · intro j u hu
            simp only [List.getElem?_map] at hu
            rcases Nat.lt_or_ge j i.size with hj | hj
            · rw [List.getElem?_range hj] at hu
              obtain ⟨d, x, _, hx, hc⟩ := hcell (off + j) (by omega)
              rw [← Nat.add_assoc] at hx
              simp only [Option.map_some, hx, Option.getD_some, Option.some.injEq] at hu
              subst hu; exact hc.one
            · rw [List.getElem?_eq_none (by simpa using hj)] at hu; cases hu
          · intro j y u hy hu
            simp only [List.getElem?_map] at hu
            rcases Nat.lt_or_ge j i.size with hj | hj
            · rw [List.getElem?_range hj] at hu
              obtain ⟨d, x, hd, hx, hc⟩ := hcell (off + j) (by omega)
              rw [← Nat.add_assoc] at hx
              simp only [Option.map_some, hx, Option.getD_some, Option.some.injEq] at hu
              subst hu
              rw [List.getElem?_map, List.getElem?_take, if_pos hj, List.getElem?_drop, hd] at hy
              cases hy
              exact ofD_conc hc
            · rw [List.getElem?_eq_none (by simpa using hj)] at hu; cases hu
        · simp only [ha, Bool.false_eq_true, if_false] at h ⊢
          obtain ⟨h1, h⟩ := h
          obtain ⟨d, u, hd, hu, hc⟩ := hcell off (by omega)
          refine ⟨u, .ofD d, by simp [hu], ofD_conc hc, ?_⟩
          simpa [List.getD_eq_getElem?_getD, hd] using h

end Go.Proofs.Ytickejlolpoboaa.AM
