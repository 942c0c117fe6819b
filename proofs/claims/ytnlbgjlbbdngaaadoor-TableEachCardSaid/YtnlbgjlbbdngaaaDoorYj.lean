/- A part of the proof: Yj. -/
import Derived.Test.YtnlbgjlbbdngaaaDoorYi
set_option linter.all false
/- TableTurned, TableKeeps, TableEach: the plain laws. -/
namespace Go.Proofs.YtnlbgjlbbdngaaaDoor.AM
open Go

theorem loopM_post {σ β : Type} {ph : σ → List (Nat × AV)} {ob : σ → List Obj} {step : σ → Option (σ ⊕ β)} (I : σ → Prop) (μ : σ → Nat) (Q : β → Prop)
    (h : ∀ s, I s → (∃ r, step s = some (.inr r) ∧ Q r) ∨ ∃ s', step s = some (.inl s') ∧ I s' ∧ μ s' < μ s) : ∀ {s : σ}, I s → ∃ r, loopM ph ob step s = some r ∧ Q r := by
  have key : ∀ n s, μ s = n → I s → ∃ r, loopM ph ob step s = some r ∧ Q r := by
    intro n
    induction n using Nat.strongRecOn with
    | ind n ih =>
      intro s hn hs
      unfold loopM
      rw [iter_eq]
      rcases h s hs with ⟨r, e, hq⟩ | ⟨s', e, hi, hm⟩
      · exact ⟨r, by rw [e]; rfl, hq⟩
      · obtain ⟨r, e2, hq⟩ := ih (μ s') (by omega) s' rfl hi
        exact ⟨r, by rw [e]; exact e2, hq⟩
  intro s hs
  exact key _ s rfl hs
theorem loopM_true {σ : Type} {ph : σ → List (Nat × AV)} {ob : σ → List Obj} {step : σ → Option (σ ⊕ Bool)} (I : σ → Prop) (μ : σ → Nat)
    (h : ∀ s, I s → step s = some (.inr true) ∨ ∃ s', step s = some (.inl s') ∧ I s' ∧ μ s' < μ s) {s : σ} (hs : I s) : loopM ph ob step s = some true := by
  obtain ⟨r, e, hr⟩ := loopM_post (ph := ph) (ob := ob) I μ (fun r => r = true) (fun s hs => by
    rcases h s hs with h | h
    · exact .inl ⟨true, h, rfl⟩
    · exact .inr h) hs
  rw [e, hr]

theorem post_or {σ : Type} {e : Option (σ ⊕ Bool)} {Q : σ ⊕ Bool → Prop} {P : σ → Prop} (h : ∃ r, e = some r ∧ Q r) (k : ∀ r, Q r → r = .inr true ∨ ∃ s', r = .inl s' ∧ P s') : e = some (.inr true) ∨ ∃ s', e = some (.inl s') ∧ P s' := by
  obtain ⟨r, rfl, hq⟩ := h
  rcases k r hq with rfl | ⟨s', rfl, hp⟩
  · exact .inl rfl
  · exact .inr ⟨s', rfl, hp⟩
structure TurnI (f : List GFound) (s : List GFound × Int) (k : Nat) : Prop where
  le : k ≤ f.length
  ix : s.2 = (k : Int) - 1
  got : s.1 = (f.drop k).reverse
  apart : ∀ i j, i < j → j < f.length → k ≤ j → compareL (nth f i).L (nth f j).L ≠ 0
theorem law17_TableTurned_pl (t : GTable) (f : List GFound) (now d u : Int) (h1 : t.A.length ≤ 9223372036854775807) (h2 : ∀ a ∈ t.A, a.L.length ≤ 9223372036854775807) (h3 : f.length ≤ 9223372036854775807) (h4 : ∀ a ∈ f, a.L.length ≤ 9223372036854775807) : law17_TableTurned t f now d u = some true := by
  unfold law17_TableTurned
  rw [awake_eq, callM_some, ref17_Few_eq t h1 h2, callM_some, ref17_FewFound_eq f h3 h4, table_Sane_eq]
  simp only [letE_eq, iteM_not, callM_some, retM_eq, tokM_eq]
  cases fewT t.A
  · rfl
  cases hF : fewF f
  · rfl
  cases hB : tabB t
  · rfl
  simp only [iteM_true]
  have hf := fewF_len hF
  have hT := tabB_iff.1 hB
  have hTl := hT.len
  rw [wI_of (x := (t.A.length : Int) + (f.length : Int)) (by omega), wI_of (x := (f.length : Int) - 1) (by omega)]
  rw [iteM_dec]
  split
  · rfl
  · rename_i hsum
    refine loopM_true (fun s => ∃ k, TurnI f s k) (fun s => (s.2 + 1).toNat) ?_ ⟨f.length, Nat.le_refl _, rfl, by simp, fun i j h1 h2 h3 => by omega⟩
    rintro ⟨g, i⟩ ⟨k, hk, hix, hgot, hap⟩
    simp only at hix hgot
    subst hgot
    simp only [iteM_dec]
    cases k with
    | zero =>
      left
      rw [if_neg (by omega), shM_eq, drawM_eq]
      have hp : f.Pairwise fun p q => compareL p.L q.L ≠ 0 := by
        rw [List.pairwise_iff_getElem]
        intro i j hi hj hij
        have := hap i j hij hj (Nat.zero_le _)
        simpa [nth, List.getD_eq_getElem?_getD, List.getElem?_eq_getElem hj, List.getElem?_eq_getElem hi] using this
      rw [table_Step_eq _ _ _ _ (by omega), callM_some, table_Step_eq _ _ _ _ (by simp; omega), callM_some, List.drop_zero, stepT_turned now d u hT (by omega) hp, Same_self (stepT_ok t f now d u), callM_some]
      rfl
    | succ m =>
      rw [if_pos (by omega)]
      have hm : i = (m : Int) := by omega
      subst hm
      have hmf : m < f.length := by omega
      refine post_or (Q := fun r : (List GFound × Int) ⊕ Bool => r = .inr true ∨ (r = .inl ((f.drop m).reverse, (m : Int) - 1) ∧ ∀ p, p < m → compareL (nth f p).L (nth f m).L ≠ 0)) ?_ ?_
      · refine loopM_post (fun j : Int => ∃ q : Nat, j = q ∧ q ≤ m ∧ ∀ p, p < q → compareL (nth f p).L (nth f m).L ≠ 0) (fun j => ((m : Int) - j).toNat) _ ?_ ⟨0, rfl, Nat.zero_le _, fun p hp => by omega⟩
        rintro j ⟨q, rfl, hq, hall⟩
        simp only [iteM_dec, drawM_eq, letE_eq, letO_eq]
        by_cases hqm : q < m
        · rw [if_pos (by omega), idxM_get (nth_get (by omega)), idxM_get (nth_get hmf), label_Compare_eq, callM_some]
          by_cases hc : compareL (nth f q).L (nth f m).L = 0
          · left; exact ⟨.inr true, by rw [if_pos hc]; rfl, .inl rfl⟩
          · right
            rw [if_neg hc, wI_of (by omega)]
            refine ⟨((q + 1 : Nat) : Int), by simp, ⟨q + 1, rfl, by omega, fun p hp => ?_⟩, by omega⟩
            by_cases hpq : p = q
            · subst hpq; exact hc
            · exact hall p (by omega)
        · left
          have : q = m := by omega
          subst this
          rw [if_neg (by omega), idxM_get (nth_get hmf), gdM_pos (by simp; omega), wI_of (by omega)]
          refine ⟨.inl ((f.drop q).reverse, (q : Int) - 1), ?_, .inr ⟨rfl, hall⟩⟩
          rw [drop_nth hmf]; simp
      · rintro r (rfl | ⟨rfl, hall⟩)
        · exact .inl rfl
        · right
          refine ⟨((f.drop m).reverse, (m : Int) - 1), rfl, ⟨m, by omega, rfl, rfl, fun i j h1 h2 h3 => ?_⟩, by simp only; omega⟩
          by_cases hj : j = m
          · subst hj; exact hall i h1
          · exact hap i j h1 h2 (by omega)
end Go.Proofs.YtnlbgjlbbdngaaaDoor.AM
