/- The order of labels, in plain words. -/
import Derived.Test.YtickejlolpoboaaLp
set_option linter.all false
namespace Go.Proofs.Ytickejlolpoboaa.AM
open Go

structure Ord3 {α : Type} (f : α → α → Int) : Prop where
  rng : ∀ a b, f a b = -1 ∨ f a b = 0 ∨ f a b = 1
  anti : ∀ a b, f b a = - f a b
  zero : ∀ a b, f a b = 0 ↔ a = b
  trans : ∀ a b c, f a b ≤ 0 → f b c ≤ 0 → f a c ≤ 0

theorem cmpS_ord : Ord3 cmpS := by
  refine ⟨fun a b => ?_, fun a b => ?_, fun a b => ?_, fun a b c => ?_⟩
  · unfold cmpS; split
    · exact .inl rfl
    · split
      · exact .inr (.inr rfl)
      · exact .inr (.inl rfl)
  · unfold cmpS
    cases h : lessB a b
    · cases h2 : lessB b a <;> simp
    · rw [lessB_asymm h]; simp
  · unfold cmpS
    cases h : lessB a b
    · cases h2 : lessB b a
      · simp [lessB_total h h2]
      · simp only [Bool.false_eq_true, if_false, if_true]
        constructor
        · intro h; cases h
        · rintro rfl; rw [lessB_irrefl] at h2; cases h2
    · simp only [if_true]
      constructor
      · intro h; cases h
      · rintro rfl; rw [lessB_irrefl] at h; cases h
  · have key : ∀ a b, cmpS a b ≤ 0 ↔ lessB b a = false := by
      intro a b
      unfold cmpS
      cases h : lessB a b
      · cases h2 : lessB b a <;> simp
      · simp [lessB_asymm h]
    rw [key, key, key]
    intro h1 h2
    exact lessB_ntrans h2 h1

theorem cmpP_ord : Ord3 cmpP := by
  refine ⟨fun a b => ?_, fun a b => ?_, fun a b => ?_, fun a b c => ?_⟩
  · unfold cmpP; split
    · exact cmpS_ord.rng _ _
    · exact cmpS_ord.rng _ _
  · unfold cmpP
    rw [cmpS_ord.anti a.1 b.1, cmpS_ord.anti a.2 b.2]
    by_cases h : cmpS a.1 b.1 = 0
    · simp [h]
    · rw [if_pos (by omega), if_pos h]
  · unfold cmpP
    by_cases h : cmpS a.1 b.1 = 0
    · rw [if_neg (by simp [h]), cmpS_ord.zero]
      rw [cmpS_ord.zero] at h
      exact ⟨fun e => Prod.ext h e, fun e => by rw [e]⟩
    · rw [if_pos h]
      refine ⟨fun e => absurd e h, fun e => ?_⟩
      subst e
      exact absurd ((cmpS_ord.zero _ _).2 rfl) h
  · unfold cmpP
    intro h1 h2
    have t1 := cmpS_ord.trans a.1 b.1 c.1
    have t2 := cmpS_ord.trans a.2 b.2 c.2
    have u1 := cmpS_ord.trans c.1 b.1 a.1
    have n1 := cmpS_ord.anti a.1 b.1
    have n2 := cmpS_ord.anti b.1 c.1
    have n3 := cmpS_ord.anti a.1 c.1
    split at h1
    · split at h2
      · rename_i g1 g2
        have h3 := t1 h1 h2
        rw [if_pos]
        · exact h3
        · intro h0
          have e := (cmpS_ord.zero a.1 c.1).1 h0
          rw [e] at h1 g1 n1
          omega
      · rename_i g1 g2
        have e : b.1 = c.1 := (cmpS_ord.zero _ _).1 (by omega)
        rw [← e, if_pos g1]; exact h1
    · rename_i g1
      have e : a.1 = b.1 := (cmpS_ord.zero _ _).1 (by omega)
      split at h2
      · rename_i g2
        rw [e, if_pos g2]; exact h2
      · rename_i g2
        rw [e, if_neg g2]
        exact t2 h1 h2

theorem cmpLs_ord : Ord3 cmpLs := by
  refine ⟨fun a b => ?_, fun a b => ?_, fun a b => ?_, fun a b c => ?_⟩
  · induction a generalizing b with
    | nil => cases b <;> simp [cmpLs]
    | cons p a ih =>
      cases b with
      | nil => simp [cmpLs]
      | cons q b =>
        simp only [cmpLs]
        split
        · exact cmpP_ord.rng _ _
        · exact ih b
  · induction a generalizing b with
    | nil => cases b <;> simp [cmpLs]
    | cons p a ih =>
      cases b with
      | nil => simp [cmpLs]
      | cons q b =>
        simp only [cmpLs]
        rw [cmpP_ord.anti p q, ih b]
        by_cases h : cmpP p q = 0
        · simp [h]
        · rw [if_pos (by omega), if_pos h]
  · induction a generalizing b with
    | nil => cases b <;> simp [cmpLs]
    | cons p a ih =>
      cases b with
      | nil => simp [cmpLs]
      | cons q b =>
        simp only [cmpLs]
        by_cases h : cmpP p q = 0
        · rw [if_neg (by simp [h]), ih b]
          rw [cmpP_ord.zero] at h
          subst h; simp
        · rw [if_pos h]
          refine ⟨fun e => absurd e h, fun e => ?_⟩
          simp only [List.cons.injEq] at e
          exact absurd ((cmpP_ord.zero _ _).2 e.1) h
  · induction a generalizing b c with
    | nil => cases b <;> cases c <;> simp [cmpLs]
    | cons p a ih =>
      cases b with
      | nil => simp [cmpLs]
      | cons q b =>
        cases c with
        | nil => simp [cmpLs]
        | cons r c =>
          simp only [cmpLs]
          intro h1 h2
          have t := cmpP_ord.trans p q r
          have n1 := cmpP_ord.anti p q
          have n2 := cmpP_ord.anti q r
          split at h1
          · rename_i g1
            split at h2
            · rename_i g2
              rw [if_pos]
              · exact t h1 h2
              · intro h0
                have e := (cmpP_ord.zero p r).1 h0
                subst e
                omega
            · rename_i g2
              have e : q = r := (cmpP_ord.zero _ _).1 (by omega)
              subst e
              rw [if_pos g1]; exact h1
          · rename_i g1
            have e : p = q := (cmpP_ord.zero _ _).1 (by omega)
            subst e
            split at h2
            · rename_i g2
              rw [if_pos g2]; exact h2
            · rename_i g2
              rw [if_neg g2]
              exact ih b c h1 h2
end Go.Proofs.Ytickejlolpoboaa.AM
