/- A part of the proof: Li. -/
import Derived.Test.YtoekflobllmeeaaGreatDoorP1
set_option linter.all false
/- The document's answer for labels is the program's. -/
namespace Go.Proofs.YtoekflobllmeeaaGreatDoor.AM
open Go

theorem ref03_Letter_eq (c : Int) : ref03_Letter c = some (letterI c) := by
  unfold ref03_Letter letterI
  simp only [letE_eq, bif_or, bif_and, retM_eq]

theorem ref03_Name_eq (s : Str) (h : s.length ≤ 9223372036854775807) : ref03_Name s = some (nameB s) := by
  unfold ref03_Name
  simp only [letE_eq]
  refine (loopM_nat s.length (fun i => (((List.range s.length).all fun j => decide (j < i) || okAt s j) && (decide (1 ≤ s.length) && decide (s.length ≤ 64)))) ?_ ?_).trans ?_
  · intro i hi
    simp only [iteM_dec, idxM_get (str_get hi), ref03_Letter_eq, callM_some, iteM_not, bif_or, bif_and, Bool.true_or, Bool.false_or, Bool.and_false, Bool.and_true]
    rw [if_pos (by omega), wI_of (by omega)]
    have key : okAt s i = (letterI ((s.getD i 0).toNat : Int) || (digitI ((s.getD i 0).toNat : Int) && decide (i ≠ 0))) := rfl
    generalize s.getD i 0 = c at key ⊢
    have bad : okAt s i = false → ∀ b : Bool, false = (((List.range s.length).all fun j => decide (j < i) || okAt s j) && b) := fun h b => by rw [all_bad hi h]; rfl
    have good : okAt s i = true → ∀ b : Bool, (((List.range s.length).all fun j => decide (j < i + 1) || okAt s j) && b) = (((List.range s.length).all fun j => decide (j < i) || okAt s j) && b) := fun h b => by rw [all_lt h]
    cases h1 : letterI (c.toNat : Int)
    · simp only [iteM_false]
      by_cases h0 : i = 0
      · left
        rw [if_pos (by omega)]
        simp only [iteM_true, retM_eq, exitM_some, Option.some.injEq, Sum.inr.injEq]
        exact bad (by rw [key, h1, h0]; simp) _
      · rw [if_neg (by omega)]
        by_cases h2 : (c.toNat : Int) < 48
        · left; rw [if_pos h2]
          simp only [iteM_true, retM_eq, exitM_some, Option.some.injEq, Sum.inr.injEq]
          exact bad (by rw [key, h1, digitI, decide_eq_false (by omega)]; simp) _
        · rw [if_neg h2]
          by_cases h3 : 57 < (c.toNat : Int)
          · left; rw [if_pos h3]
            simp only [retM_eq, exitM_some, Option.some.injEq, Sum.inr.injEq]
            exact bad (by rw [key, h1, digitI, decide_eq_false (show ¬ (c.toNat : Int) ≤ 57 by omega)]; simp) _
          · right; rw [if_neg h3]
            exact ⟨by simp, good (by rw [key, h1, digitI, decide_eq_true (show (48 : Int) ≤ (c.toNat : Int) by omega), decide_eq_true (show (c.toNat : Int) ≤ 57 by omega)]; simp [h0]) _⟩
    · right
      simp only [iteM_true]
      exact ⟨by simp, good (by rw [key, h1]; simp) _⟩
  · simp only [iteM_dec]
    rw [if_neg (by omega)]
    simp only [bif_and, retM_eq, exitM_some, all_end, Bool.true_and]
    rw [show decide ((1 : Int) ≤ (s.length : Int)) = decide (1 ≤ s.length) from by rw [decide_eq_decide]; omega, show decide ((s.length : Int) ≤ 64) = decide (s.length ≤ 64) from by rw [decide_eq_decide]; omega]
  · rw [all_zero, nameB, Bool.and_comm]

theorem ref03_Sane_eq (l : List GPair) (h : l.length ≤ 9223372036854775807) (hs : ∀ p ∈ l, p.1.length ≤ 9223372036854775807) : ref03_Sane l = some (saneB l) := by
  unfold ref03_Sane
  simp only [letE_eq]
  refine (loopM_nat l.length (fun i => (((List.range l.length).all fun j => decide (j < i) || saneAt l j) && decide (l.length ≤ 16))) ?_ ?_).trans ?_
  · intro i hi
    have hn : ref03_Name (pr l i).1 = some (nameB (pr l i).1) := ref03_Name_eq _ (hs _ (List.mem_of_getElem? (pr_get hi)))
    simp only [iteM_dec, idxM_get (pr_get hi), hn, callM_some, iteM_not, drawM_eq, bif_or, bif_and, Bool.true_and, Bool.false_and]
    rw [if_pos (by omega), wI_of (x := (i : Int) + 1) (by omega)]
    cases h1 : nameB (pr l i).1
    · left; simp [all_bad hi (show saneAt l i = false by simp [saneAt, h1])]
    · simp only [iteM_true]
      by_cases h2 : 64 < (pr l i).2.length
      · left; rw [if_pos (by omega)]
        simp [all_bad hi (show saneAt l i = false by simp [saneAt, h1]; omega)]
      · rw [if_neg (by omega)]
        by_cases h3 : i = 0
        · subst h3
          right
          rw [if_neg (by omega)]
          exact ⟨by simp, by rw [all_lt (show saneAt l 0 = true by simp [saneAt, h1]; omega)]⟩
        · rw [if_pos (by omega), wI_of (by omega), idxM_of (x := pr l (i - 1)) (by omega) (by rw [show ((i : Int) - 1).toNat = i - 1 from by omega]; exact pr_get (by omega))]
          cases h4 : ltS (pr l (i - 1)).1 (pr l i).1
          · left; simp [all_bad hi (show saneAt l i = false by simp [saneAt, h1, h3, h4]), h4]
          · right
            exact ⟨by simp, by rw [all_lt (show saneAt l i = true by simp [saneAt, h1, h3, h4]; omega)]⟩
  · simp only [iteM_dec]
    rw [if_neg (by omega)]
    simp only [retM_eq, exitM_some, all_end, Bool.true_and]
    rw [show decide ((l.length : Int) ≤ 16) = decide (l.length ≤ 16) from by rw [decide_eq_decide]; omega]
  · rw [all_zero, saneB, Bool.and_comm]

/-- small enough for the machine -/
def Sml (l : List GPair) : Prop := l.length ≤ 1000000 ∧ ∀ p ∈ l, p.1.length ≤ 9223372036854775807
theorem Sml.len {l : List GPair} (h : Sml l) : l.length ≤ 9223372036854775807 := by have := h.1; omega
theorem ref03_As_eq (l : List GPair) (h : Sml l) : ref03_As l = some (countsL l) := by
  unfold ref03_As countsL
  rw [ref03_Sane_eq l h.len h.2, callM_some]
  simp only [letE_eq, iteM_not]
  cases saneB l <;> rfl
theorem Sml.counts {l : List GPair} (h : Sml l) : Sml (countsL l) := by
  unfold countsL
  split
  · exact h
  · exact ⟨by simp, by simp⟩
theorem Sml.sub {l m : List GPair} (h : Sml l) (hs : m.Sublist l) : Sml m := ⟨Nat.le_trans hs.length_le h.1, fun p hp => h.2 p (hs.subset hp)⟩

theorem ref03_order_eq (a b : Str) : ref03_order a b = some (cmpS a b) := by
  unfold ref03_order cmpS
  simp only [letE_eq, iteM_if, retM_eq]
  split
  · rfl
  · split <;> rfl
theorem ref03_Compare_eq (x y : List GPair) (hx : Sml x) (hy : Sml y) : ref03_Compare x y = some (compareL x y) := by
  unfold ref03_Compare
  rw [ref03_As_eq x hx, callM_some, ref03_As_eq y hy, callM_some]
  have ha := countsL_len x
  have hb := countsL_len y
  unfold compareL
  simp only [letE_eq]
  generalize countsL x = a at *
  generalize countsL y = b at *
  refine (loopM_nat a.length (fun i => if b.length < i then 1 else cmpLs (a.drop i) (b.drop i)) ?_ ?_).trans (by simp)
  · intro i hi
    simp only [idxM_get (pr_get hi), ref03_order_eq, callM_some, drawM_eq, bif_and, iteM_not]
    rw [decide_eq_true (show (i : Int) < (a.length : Int) by omega), Bool.true_and, iteM_dec, drop_pr hi]
    by_cases hib : b.length ≤ i
    · left; rw [if_neg (by omega), List.drop_eq_nil_of_le hib]
      simp only [iteM_dec]
      rw [if_neg (by omega), if_pos (by omega)]
      simp [cmpLs]
    · rw [if_pos (by omega), idxM_get (pr_get (l := b) (by omega)), drop_pr (l := b) (by omega)]
      simp only [callM_some, iteM_dec, wI_of (show -9223372036854775808 ≤ (i : Int) + 1 ∧ (i : Int) + 1 ≤ 9223372036854775807 by omega)]
      by_cases h1 : cmpS (pr a i).1 (pr b i).1 = 0
      · rw [if_pos h1]
        by_cases h2 : cmpS (pr a i).2 (pr b i).2 = 0
        · right; rw [if_pos h2]; exact ⟨by simp, by rw [if_neg (by omega), if_neg (by omega)]; simp [cmpLs, cmpP, h1, h2]⟩
        · left; rw [if_neg h2, if_neg (by omega)]; simp [cmpLs, cmpP, h1, h2]
      · left; rw [if_neg h1, if_neg h1, if_neg (by omega)]; simp [cmpLs, cmpP, h1]
  · simp only [bif_and]
    rw [decide_eq_false (by omega), Bool.false_and, iteM_false, List.drop_length]
    simp only [iteM_dec]
    by_cases h : a.length < b.length
    · rw [if_pos (by omega), if_neg (by omega), drop_pr (l := b) h]; simp [cmpLs]
    · rw [if_neg (by omega)]
      by_cases h2 : b.length < a.length
      · rw [if_pos (by omega), if_pos h2]; simp
      · rw [if_neg (by omega), if_neg h2, List.drop_eq_nil_of_le (by omega)]; simp [cmpLs]
end Go.Proofs.YtoekflobllmeeaaGreatDoor.AM
