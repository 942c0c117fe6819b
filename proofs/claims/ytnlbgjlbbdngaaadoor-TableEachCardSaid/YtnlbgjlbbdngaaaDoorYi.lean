/- A part of the proof: Yi. -/
import Derived.Test.YtnlbgjlbbdngaaaDoorP
set_option linter.all false
/- TableTwice, TableTurned: the plain laws. -/
namespace Go.Proofs.YtnlbgjlbbdngaaaDoor.AM
open Go

theorem filterMap_congr' {α β : Type} {g k : α → Option β} : ∀ {l : List α}, (∀ a ∈ l, g a = k a) → l.filterMap g = l.filterMap k
  | [], _ => rfl
  | a :: l, h => by rw [List.filterMap_cons, List.filterMap_cons, h a (by simp), filterMap_congr' fun b hb => h b (by simp [hb])]
theorem filterMap_self {α : Type} {g : α → Option α} : ∀ {l : List α}, (∀ a ∈ l, g a = some a) → l.filterMap g = l
  | [], _ => rfl
  | a :: l, h => by rw [List.filterMap_cons, h a (by simp)]; simp only; rw [filterMap_self fun b hb => h b (by simp [hb])]
theorem foldS_idle {now d u : Int} : ∀ (D : List GFound) {s : Int × List GAlert}, (∀ x ∈ D, (s.2.find? fun y => decide (y.L = x.L)).isSome = true) → D.foldl (addS now d u) s = s
  | [], _, _ => rfl
  | x :: D, s, h => by
    have e1 : addS now d u s x = s := by unfold addS; rw [if_pos (h x (by simp))]
    rw [List.foldl_cons, e1]
    exact foldS_idle D fun y hy => h y (by simp [hy])
theorem find_self {D : List GFound} (h : ApartF D) {x : GFound} (hx : x ∈ D) : (D.find? fun y => decide (y.L = x.L)) = some x := by
  cases e : D.find? (fun y => decide (y.L = x.L)) with
  | none => exact absurd rfl (find_none e x hx)
  | some y =>
    have h1 := List.mem_of_find?_eq_some e
    have h2 : y.L = x.L := by simpa using List.find?_some e
    congr 1
    obtain ⟨i, hi, rfl⟩ := List.getElem_of_mem h1
    obtain ⟨j, hj, rfl⟩ := List.getElem_of_mem hx
    rcases Nat.lt_trichotomy i j with hij | hij | hij
    · exact absurd h2 (List.pairwise_iff_getElem.1 h i j hi hj hij)
    · subst hij; rfl
    · exact absurd h2.symm (List.pairwise_iff_getElem.1 h j i hj hi hij)
theorem stepT_twice {t : GTable} {f : List GFound} (now d u : Int) (hT : TabOk t) (hl : t.A.length + f.length ≤ 16) : stepT (stepT t f now d u) f now d u = stepT t f now d u := by
  have hok := stepT_ok t f now d u
  have e1 : cntT (stepT t f now d u) = stepT t f now d u := cntT_of (tabB_iff.2 hok)
  have e0 : cntT t = t := cntT_of (tabB_iff.2 hT)
  have hD := dist_apart f
  have hDl := dist_len f
  have hKl : (keptL (dist f) now d u t.A).length ≤ t.A.length := List.length_filterMap_le _ _
  have hS : stepS t (dist f) now d u = (t.Full, keptL (dist f) now d u t.A ++ ((dist f).filter fun x => ((keptL (dist f) now d u t.A).find? fun y => decide (y.L = x.L)).isNone).map (fresh now d u)) := foldS_room (dist f) hD (by simp only; omega)
  have hi := stepS_inv hT f now d u
  have hA : stepT t f now d u = ⟨sortA (stepS t (dist f) now d u).2, (stepS t (dist f) now d u).1⟩ := by unfold stepT; rw [e0]
  have hfix : ∀ b ∈ (stepS t (dist f) now d u).2, keepA (dist f) now d u b = some b := by
    intro b hb
    rw [hS] at hb
    rcases List.mem_append.1 hb with hb | hb
    · obtain ⟨a, _, hk, _⟩ := keptL_mem hb
      exact keepA_twice hk
    · obtain ⟨x, hx, rfl⟩ := List.mem_map.1 hb
      exact fresh_twice (find_self hD (List.mem_filter.1 hx).1)
  have hall : ∀ x ∈ dist f, ((stepS t (dist f) now d u).2.find? fun y => decide (y.L = x.L)).isSome = true := by
    intro x hx
    rw [hS]
    simp only [find_or]
    cases e : (keptL (dist f) now d u t.A).find? (fun y => decide (y.L = x.L)) with
    | some y => rfl
    | none =>
      simp only [Option.none_or]
      rw [List.find?_isSome]
      exact ⟨fresh now d u x, List.mem_map.2 ⟨x, List.mem_filter.2 ⟨hx, by rw [e]; rfl⟩, rfl⟩, decide_eq_true rfl⟩
  unfold stepT at *
  rw [e1, e0]
  rw [e0] at hok e1
  generalize stepS t (dist f) now d u = s at *
  have hp := sortA_perm s.2
  have hk : keptL (dist f) now d u (sortA s.2) = sortA s.2 := filterMap_self fun a ha => hfix a (hp.mem_iff.1 ha)
  have : stepS ⟨sortA s.2, s.1⟩ (dist f) now d u = (s.1, sortA s.2) := by
    unfold stepS
    simp only
    rw [hk]
    refine foldS_idle _ fun x hx => ?_
    rw [find_perm (lab := GAlert.L) hi.apart hp]
    exact hall x hx
  rw [this]
  simp only
  rw [sortA_of (sortA_asc hi.apart)]


theorem law17_TableTwice_pl (t : GTable) (f : List GFound) (now d u : Int) (h1 : t.A.length ≤ 9223372036854775807) (h2 : ∀ a ∈ t.A, a.L.length ≤ 9223372036854775807) (h3 : f.length ≤ 9223372036854775807) (h4 : ∀ a ∈ f, a.L.length ≤ 9223372036854775807) : law17_TableTwice t f now d u = some true := by
  unfold law17_TableTwice
  rw [awake_eq, callM_some, ref17_Few_eq t h1 h2, callM_some, ref17_FewFound_eq f h3 h4, table_Sane_eq]
  simp only [letE_eq, iteM_not, callM_some, retM_eq, drawM_eq]
  cases fewT t.A
  · rfl
  cases hF : fewF f
  · rfl
  cases hB : tabB t
  · rfl
  simp only [iteM_true]
  have hf := fewF_len hF
  have hT := tabB_iff.1 hB
  have hTl := hT.len
  rw [wI_of (by omega)]
  simp only [iteM_dec]
  split
  · rfl
  · rw [table_Step_eq _ _ _ _ (by omega), callM_some, table_Step_eq _ _ _ _ (by omega), callM_some, stepT_twice now d u hT (by omega), Same_self (stepT_ok t f now d u), callM_some]

/-! ### turned -/
theorem keepA_congr {D D' : List GFound} {now d u : Int} {a : GAlert} (h : (D.find? fun x => decide (x.L = a.L)) = D'.find? fun x => decide (x.L = a.L)) : keepA D now d u a = keepA D' now d u a := by
  unfold keepA; rw [h]
theorem dist_of {f : List GFound} (h : f.Pairwise fun p q => compareL p.L q.L ≠ 0) : dist f = f.filter fun x => saneB x.L := by
  have key : ∀ (f acc : List GFound), (acc ++ f).Pairwise (fun p q => compareL p.L q.L ≠ 0) → Sanes GFound.L acc → f.foldl addD acc = acc ++ f.filter fun x => saneB x.L := by
    intro f
    induction f with
    | nil => intro acc _ _; simp
    | cons x f ih =>
      intro acc h hs
      rw [List.foldl_cons]
      have hx := (List.pairwise_append.1 h).2.2
      cases e : saneB x.L
      · have e1 : addD acc x = acc := by unfold addD; rw [e]; rfl
        rw [e1, ih acc ?_ hs, List.filter_cons, e]; rfl
        refine h.sublist ?_
        exact List.Sublist.append (List.Sublist.refl _) (List.sublist_cons_self _ _)
      · have hn : acc.find? (fun y => decide (y.L = x.L)) = none := List.find?_eq_none.2 fun y hy => by
          have := hx y hy x (by simp)
          simp only [decide_eq_true_eq]
          intro e2
          exact this ((compareL_zero (hs y hy) e).2 e2)
        have e1 : addD acc x = acc ++ [x] := by unfold addD; rw [e, hn]; rfl
        rw [e1, ih (acc ++ [x]) (by simpa using h) (hs.snoc e), List.filter_cons, e]
        simp
  have := key f [] (by simpa using h) (fun x hx => by cases hx)
  simpa [dist] using this
theorem compareL_flip {a b : List GPair} (h : compareL a b ≠ 0) : compareL b a ≠ 0 := by
  unfold compareL at *
  have := cmpLs_ord.anti (countsL a) (countsL b)
  omega
theorem stepT_turned {t : GTable} {f : List GFound} (now d u : Int) (hT : TabOk t) (hl : t.A.length + f.length ≤ 16) (h : f.Pairwise fun p q => compareL p.L q.L ≠ 0) : stepT t f.reverse now d u = stepT t f now d u := by
  have e0 : cntT t = t := cntT_of (tabB_iff.2 hT)
  have h' : f.reverse.Pairwise fun p q => compareL p.L q.L ≠ 0 := List.pairwise_reverse.2 (h.imp fun {a b} hab => compareL_flip hab)
  have d1 := dist_of h
  have d2 : dist f.reverse = (dist f).reverse := by rw [dist_of h', d1, List.filter_reverse]
  have hD := dist_apart f
  have hD2 : ApartF (dist f).reverse := by rw [← d2]; exact dist_apart _
  have hDl := dist_len f
  have hi := stepS_inv hT f now d u
  have hK : keptL (dist f).reverse now d u t.A = keptL (dist f) now d u t.A := by
    unfold keptL
    refine filterMap_congr' fun a _ => keepA_congr ?_
    exact find_perm (lab := GFound.L) hD (List.reverse_perm _) a.L
  have hKl : (keptL (dist f) now d u t.A).length ≤ t.A.length := List.length_filterMap_le _ _
  unfold stepT
  rw [e0, d2]
  have hS : stepS t (dist f) now d u = (t.Full, keptL (dist f) now d u t.A ++ ((dist f).filter fun x => ((keptL (dist f) now d u t.A).find? fun y => decide (y.L = x.L)).isNone).map (fresh now d u)) := foldS_room (dist f) hD (by simp only; omega)
  have hS2 : stepS t (dist f).reverse now d u = (t.Full, keptL (dist f) now d u t.A ++ ((dist f).reverse.filter fun x => ((keptL (dist f) now d u t.A).find? fun y => decide (y.L = x.L)).isNone).map (fresh now d u)) := by
    unfold stepS
    rw [hK]
    exact foldS_room (dist f).reverse hD2 (by simp only [List.length_reverse]; omega)
  rw [hS] at hi
  rw [hS, hS2]
  simp only
  congr 1
  refine sortA_eq hi.apart (List.Perm.append_left _ ?_)
  rw [List.filter_reverse, List.map_reverse]
  exact List.reverse_perm _
end Go.Proofs.YtnlbgjlbbdngaaaDoor.AM
