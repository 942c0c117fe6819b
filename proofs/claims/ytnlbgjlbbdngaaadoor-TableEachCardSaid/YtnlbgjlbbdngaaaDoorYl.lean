/- A part of the proof: Yl. -/
import Derived.Test.YtnlbgjlbbdngaaaDoorYk
set_option linter.all false
/- TableEach: the plain law. -/
namespace Go.Proofs.YtnlbgjlbbdngaaaDoor.AM
open Go

theorem findA_none {A : List GAlert} {l : List GPair} (h : A.find? (fun a => decide (a.L = l)) = none) : findA A l = (zA, false) := by unfold findA; rw [h]
theorem findA_some {A : List GAlert} {l : List GPair} {a : GAlert} (h : A.find? (fun a => decide (a.L = l)) = some a) : findA A l = (a, true) := by unfold findA; rw [h]
theorem kept_find {D : List GFound} {now d u : Int} {l : List GPair} : ∀ {A : List GAlert}, Apart A → (keptL D now d u A).find? (fun a => decide (a.L = l)) = (A.find? fun a => decide (a.L = l)).bind (keepA D now d u)
  | [], _ => rfl
  | a :: A, h => by
    obtain ⟨h1, h2⟩ := List.pairwise_cons.1 h
    have ih := kept_find (D := D) (now := now) (d := d) (u := u) (l := l) h2
    unfold keptL at *
    rw [List.filterMap_cons, List.find?_cons]
    by_cases e : a.L = l
    · rw [decide_eq_true e]
      have hn : A.find? (fun a => decide (a.L = l)) = none := List.find?_eq_none.2 fun b hb => by
        have := h1 b hb
        simp only [decide_eq_true_eq]
        intro e2; exact this (by rw [e, e2])
      rw [hn] at ih
      cases hk : keepA D now d u a with
      | none => simpa [hk] using ih
      | some b => simp [keepA_L hk, e, hk]
    · rw [decide_eq_false e, ← ih]
      cases hk : keepA D now d u a with
      | none => rfl
      | some b =>
        simp only [List.find?_cons]
        rw [decide_eq_false (by rw [keepA_L hk]; exact e)]
/-- What the step makes of one label. -/
structure Each (t : GTable) (f : List GFound) (l : List GPair) (now d u : Int) (t1 : GTable) : Prop where
  had : ∀ a, t.A.find? (fun a => decide (a.L = l)) = some a → t1.A.find? (fun a => decide (a.L = l)) = (if goneH (stepH a.H (hasB f l) now d u).1 (bd now) (bd u) = true then none else t1.A.find? (fun a => decide (a.L = l))) ∧
    (goneH (stepH a.H (hasB f l) now d u).1 (bd now) (bd u) = false → ∃ b, t1.A.find? (fun a => decide (a.L = l)) = some b ∧ b.H = (stepH a.H (hasB f l) now d u).1 ∧ b.State = (stepH a.H (hasB f l) now d u).2)
  no : t.A.find? (fun a => decide (a.L = l)) = none → hasB f l = false → t1.A.find? (fun a => decide (a.L = l)) = none
  new : t.A.find? (fun a => decide (a.L = l)) = none → hasB f l = true → (∃ b, t1.A.find? (fun a => decide (a.L = l)) = some b ∧ b.H = (stepH h0 true now d u).1 ∧ b.State = (stepH h0 true now d u).2) ∨ (t1.A.find? (fun a => decide (a.L = l)) = none ∧ (t.Full < t1.Full ∨ t.Full = cap))
theorem stepT_each {t : GTable} {f : List GFound} {l : List GPair} (now d u : Int) (hT : TabOk t) (hl : saneB l = true) : Each t f l now d u (stepT t f now d u) := by
  have e0 : cntT t = t := cntT_of (tabB_iff.2 hT)
  have hi := stepS_inv hT f now d u
  have hK := kept_find (D := dist f) (now := now) (d := d) (u := u) (l := l) (asc_apart hT.asc)
  have hd : hasB f l = ((dist f).find? fun y => decide (y.L = l)).isSome := by unfold hasB; rw [dist_find hl]
  unfold stepT
  rw [e0]
  have hp := find_perm (lab := GAlert.L) hi.apart (sortA_perm (stepS t (dist f) now d u).2) l
  unfold stepS at hp ⊢
  refine ⟨fun a ha => ?_, fun hn hh => ?_, fun hn hh => ?_⟩
  · simp only
    rw [hp]
    rw [ha, Option.bind_some] at hK
    have haL : a.L = l := by simpa using List.find?_some ha
    have hk : keepA (dist f) now d u a = if goneH (stepH a.H ((dist f).find? fun y => decide (y.L = l)).isSome now d u).1 (bd now) (bd u) = true then none else some ⟨a.L, (stepH a.H ((dist f).find? fun y => decide (y.L = l)).isSome now d u).1, (stepH a.H ((dist f).find? fun y => decide (y.L = l)).isSome now d u).2, match (dist f).find? (fun y => decide (y.L = l)) with | some x => x.X.V | none => a.V⟩ := by
      unfold keepA; rw [haL]; rfl
    rw [hd]
    constructor
    · split
      · rename_i hg
        rw [if_pos hg] at hk
        rw [hk] at hK
        refine foldS_none (dist f) hK ?_
        cases e : (dist f).find? (fun y => decide (y.L = l)) with
        | none => rfl
        | some x =>
          rw [e, Option.isSome_some] at hg
          rw [gone_on (show (stepH a.H true now d u).1.On = true from stepG_on)] at hg
          cases hg
      · rfl
    · intro hg
      rw [if_neg (by rw [hg]; simp)] at hk
      rw [hk] at hK
      exact ⟨_, foldS_find (dist f) hK, rfl, rfl⟩
  · simp only
    rw [hp]
    rw [hn] at hK
    refine foldS_none (dist f) hK ?_
    rw [hd] at hh
    simpa using hh
  · simp only
    rw [hp]
    rw [hn] at hK
    rcases foldS_new (now := now) (d := d) (u := u) (dist f) (s := (t.Full, keptL (dist f) now d u t.A)) hT.full.2 hK (by rw [← hd]; exact hh) with ⟨x, hx⟩ | hx
    · exact .inl ⟨_, hx, rfl, rfl⟩
    · exact .inr hx
set_option maxHeartbeats 1000000 in
theorem law17_TableEach_pl (t : GTable) (f : List GFound) (l : List GPair) (now d u : Int) (h1 : t.A.length ≤ 9223372036854775807) (h2 : ∀ a ∈ t.A, a.L.length ≤ 9223372036854775807) (h3 : f.length ≤ 9223372036854775807) (h4 : ∀ a ∈ f, a.L.length ≤ 9223372036854775807) (h5 : l.length ≤ 9223372036854775807) : law17_TableEach t f l now d u = some true := by
  unfold law17_TableEach
  rw [awake_eq, callM_some, ref17_Few_eq t h1 h2, callM_some, ref17_FewFound_eq f h3 h4, table_Sane_eq, ref03_Few_eq l h5, label_Sane_eq]
  simp only [letE_eq, iteM_not, callM_some, retM_eq]
  cases fewT t.A
  · rfl
  cases hF : fewF f
  · rfl
  cases fewB l
  · rfl
  cases hB : tabB t
  · rfl
  cases hl : saneB l
  · rfl
  simp only [iteM_true]
  have hf := fewF_len hF
  have hT := tabB_iff.1 hB
  have e0 : cntT t = t := cntT_of hB
  have hE := stepT_each (f := f) now d u hT hl
  have hf1 := stepT_full f now d u hT
  have e1 : cntT (stepT t f now d u) = stepT t f now d u := cntT_of (tabB_iff.2 (stepT_ok t f now d u))
  rw [table_Step_eq _ _ _ _ (by omega), callM_some, table_Find_eq hl, callM_some, table_Find_eq hl, callM_some, law17_has_eq hl (by omega), callM_some, hold_Step_eq, callM_some, e0, e1]
  generalize stepT t f now d u = t1 at *
  cases ha : t.A.find? (fun a => decide (a.L = l)) with
  | some a =>
    obtain ⟨k1, k2⟩ := hE.had a ha
    rw [findA_some ha]
    simp only [iteM_true]
    rw [Gone_step, callM_some]
    cases hg : goneH (stepH a.H (hasB f l) now d u).1 (bd now) (bd u)
    · obtain ⟨b, hb, hb1, hb2⟩ := k2 hg
      rw [findA_some hb]
      simp [hb1, hb2]
    · rw [if_pos hg] at k1
      rw [findA_none k1]; rfl
  | none =>
    rw [findA_none ha]
    simp only [iteM_false]
    cases hh : hasB f l
    · rw [findA_none (hE.no ha hh)]; rfl
    · simp only [iteM_true]
      rcases hE.new ha hh with ⟨b, hb, hb1, hb2⟩ | ⟨hb, hb2⟩
      · rw [findA_some hb]
        have z : zA.H = h0 := rfl
        simp only [z, hb1, hb2]
        simp [iteM_if]
      · rw [findA_none hb]
        rcases hb2 with hb2 | hb2
        · rw [decide_eq_true hb2]; rfl
        · rw [cap_eq] at hb2
          rw [decide_eq_true hb2]
          cases decide (t.Full < t1.Full) <;> rfl
end Go.Proofs.YtnlbgjlbbdngaaaDoor.AM
