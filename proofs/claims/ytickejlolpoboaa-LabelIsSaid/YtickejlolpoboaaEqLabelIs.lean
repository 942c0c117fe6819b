/- A part of the proof: Yt2, Li, Lj, EqLabelIs. -/
import Derived.Test.YtickejlolpoboaaP
import Derived.Test.YtickejlolpoboaaOk
set_option linter.all false
/- Two more loops. -/
namespace Go.Proofs.Ytickejlolpoboaa.AM
open Go
variable {β : Type}

/-- A loop that counts up, with what is known by then. -/
theorem loopM_natJ {ph : Int → List (Nat × AV)} {ob : Int → List Obj} {step : Int → Option (Int ⊕ β)} (n : Nat) (J : Nat → Prop) (F : Nat → β)
    (h1 : ∀ i, i < n → J i → step (i : Int) = some (.inr (F i)) ∨ (step (i : Int) = some (.inl ((i + 1 : Nat) : Int)) ∧ J (i + 1) ∧ F (i + 1) = F i)) (h2 : J n → step (n : Int) = some (.inr (F n))) (h0 : J 0) : loopM ph ob step 0 = some (F 0) := by
  have := loopM_rec (ph := ph) (ob := ob) (step := step) (fun i : Int => (0 ≤ i ∧ i ≤ n) ∧ J i.toNat) (fun i => (n - i).toNat) (fun i => F i.toNat) (by
    rintro i ⟨⟨h0, hn⟩, hj⟩
    obtain ⟨k, rfl⟩ := Int.eq_ofNat_of_zero_le h0
    simp only [Int.toNat_natCast] at hj
    rcases Nat.lt_or_ge k n with hk | hk
    · rcases h1 k hk hj with h | ⟨h, hj', he⟩
      · exact .inl (by simpa using h)
      · exact .inr ⟨_, h, ⟨⟨by omega, by omega⟩, by simpa using hj'⟩, by omega, by simp only [Int.toNat_natCast]; exact he⟩
    · have : k = n := by omega
      subst this
      exact .inl (by simpa using h2 hj)) (s := 0) ⟨⟨by omega, by omega⟩, by simpa using h0⟩
  simpa using this
/-- A loop that counts downwards. -/
theorem loopM_down {ph : Int → List (Nat × AV)} {ob : Int → List Obj} {step : Int → Option (Int ⊕ β)} (F : Nat → β)
    (h0 : step 0 = some (.inr (F 0))) (n : Nat) (h1 : ∀ i, i < n → step ((i + 1 : Nat) : Int) = some (.inr (F (i + 1))) ∨ (step ((i + 1 : Nat) : Int) = some (.inl (i : Int)) ∧ F i = F (i + 1))) : loopM ph ob step (n : Int) = some (F n) := by
  have := loopM_rec (ph := ph) (ob := ob) (step := step) (fun i : Int => 0 ≤ i ∧ i ≤ n) (fun i => i.toNat) (fun i => F i.toNat) (by
    rintro i ⟨h0', hn⟩
    obtain ⟨k, rfl⟩ := Int.eq_ofNat_of_zero_le h0'
    cases k with
    | zero => exact .inl (by simpa using h0)
    | succ k =>
      rcases h1 k (by omega) with h | ⟨h, he⟩
      · exact .inl (by simpa using h)
      · exact .inr ⟨_, h, ⟨by omega, by omega⟩, by omega, by simp only [Int.toNat_natCast]; exact he⟩) (s := (n : Int)) ⟨by omega, by omega⟩
  simpa using this

end Go.Proofs.Ytickejlolpoboaa.AM

/- The document's answer for labels is the program's. -/
namespace Go.Proofs.Ytickejlolpoboaa.AM
open Go

theorem ref03_Letter_eq (c : Int) : ref03_Letter c = some (letterI c) := by
  unfold ref03_Letter letterI
  simp only [letE_eq, bif_or, bif_and, retM_eq]

theorem ref03_Name_eq (s : Str) (h : s.length ≤ 9223372036854775807) : ref03_Name s = some (nameB s) := by
  unfold ref03_Name
  simp only [letE_eq]
  refine (loopM_nat s.length (fun i => (((List.range s.length).all fun j => decide (j < i) || okAt s j) && (decide (1 ≤ s.length) && decide (s.length ≤ 64)))) ?_ ?_).trans ?_
  · intro i hi
    simp only [iteM_dec, idxM_get (str_get hi), ref03_Letter_eq, callM_some, iteM_not, bif_or, bif_and, Bool.true_or, Bool.false_or, Bool.and_false, Bool.and_true]
    rw [if_pos (by omega), wI_of (by omega)]
    have key : okAt s i = (letterI ((s.getD i 0).toNat : Int) || (digitI ((s.getD i 0).toNat : Int) && decide (i ≠ 0))) := rfl
    generalize s.getD i 0 = c at key ⊢
    have bad : okAt s i = false → ∀ b : Bool, false = (((List.range s.length).all fun j => decide (j < i) || okAt s j) && b) := fun h b => by rw [all_bad hi h]; rfl
    have good : okAt s i = true → ∀ b : Bool, (((List.range s.length).all fun j => decide (j < i + 1) || okAt s j) && b) = (((List.range s.length).all fun j => decide (j < i) || okAt s j) && b) := fun h b => by rw [all_lt h]
    cases h1 : letterI (c.toNat : Int)
    · simp only [iteM_false]
      by_cases h0 : i = 0
      · left
        rw [if_pos (by omega)]
        simp only [iteM_true, retM_eq, exitM_some, Option.some.injEq, Sum.inr.injEq]
        exact bad (by rw [key, h1, h0]; simp) _
      · rw [if_neg (by omega)]
        by_cases h2 : (c.toNat : Int) < 48
        · left; rw [if_pos h2]
          simp only [iteM_true, retM_eq, exitM_some, Option.some.injEq, Sum.inr.injEq]
          exact bad (by rw [key, h1, digitI, decide_eq_false (by omega)]; simp) _
        · rw [if_neg h2]
          by_cases h3 : 57 < (c.toNat : Int)
          · left; rw [if_pos h3]
            simp only [retM_eq, exitM_some, Option.some.injEq, Sum.inr.injEq]
            exact bad (by rw [key, h1, digitI, decide_eq_false (show ¬ (c.toNat : Int) ≤ 57 by omega)]; simp) _
          · right; rw [if_neg h3]
            exact ⟨by simp, good (by rw [key, h1, digitI, decide_eq_true (show (48 : Int) ≤ (c.toNat : Int) by omega), decide_eq_true (show (c.toNat : Int) ≤ 57 by omega)]; simp [h0]) _⟩
    · right
      simp only [iteM_true]
      exact ⟨by simp, good (by rw [key, h1]; simp) _⟩
  · simp only [iteM_dec]
    rw [if_neg (by omega)]
    simp only [bif_and, retM_eq, exitM_some, all_end, Bool.true_and]
    rw [show decide ((1 : Int) ≤ (s.length : Int)) = decide (1 ≤ s.length) from by rw [decide_eq_decide]; omega, show decide ((s.length : Int) ≤ 64) = decide (s.length ≤ 64) from by rw [decide_eq_decide]; omega]
  · rw [all_zero, nameB, Bool.and_comm]

theorem ref03_Sane_eq (l : List GPair) (h : l.length ≤ 9223372036854775807) (hs : ∀ p ∈ l, p.1.length ≤ 9223372036854775807) : ref03_Sane l = some (saneB l) := by
  unfold ref03_Sane
  simp only [letE_eq]
  refine (loopM_nat l.length (fun i => (((List.range l.length).all fun j => decide (j < i) || saneAt l j) && decide (l.length ≤ 16))) ?_ ?_).trans ?_
  · intro i hi
    have hn : ref03_Name (pr l i).1 = some (nameB (pr l i).1) := ref03_Name_eq _ (hs _ (List.mem_of_getElem? (pr_get hi)))
    simp only [iteM_dec, idxM_get (pr_get hi), hn, callM_some, iteM_not, drawM_eq, bif_or, bif_and, Bool.true_and, Bool.false_and]
    rw [if_pos (by omega), wI_of (x := (i : Int) + 1) (by omega)]
    cases h1 : nameB (pr l i).1
    · left; simp [all_bad hi (show saneAt l i = false by simp [saneAt, h1])]
    · simp only [iteM_true]
      by_cases h2 : 64 < (pr l i).2.length
      · left; rw [if_pos (by omega)]
        simp [all_bad hi (show saneAt l i = false by simp [saneAt, h1]; omega)]
      · rw [if_neg (by omega)]
        by_cases h3 : i = 0
        · subst h3
          right
          rw [if_neg (by omega)]
          exact ⟨by simp, by rw [all_lt (show saneAt l 0 = true by simp [saneAt, h1]; omega)]⟩
        · rw [if_pos (by omega), wI_of (by omega), idxM_of (x := pr l (i - 1)) (by omega) (by rw [show ((i : Int) - 1).toNat = i - 1 from by omega]; exact pr_get (by omega))]
          cases h4 : ltS (pr l (i - 1)).1 (pr l i).1
          · left; simp [all_bad hi (show saneAt l i = false by simp [saneAt, h1, h3, h4]), h4]
          · right
            exact ⟨by simp, by rw [all_lt (show saneAt l i = true by simp [saneAt, h1, h3, h4]; omega)]⟩
  · simp only [iteM_dec]
    rw [if_neg (by omega)]
    simp only [retM_eq, exitM_some, all_end, Bool.true_and]
    rw [show decide ((l.length : Int) ≤ 16) = decide (l.length ≤ 16) from by rw [decide_eq_decide]; omega]
  · rw [all_zero, saneB, Bool.and_comm]

/-- small enough for the machine -/
def Sml (l : List GPair) : Prop := l.length ≤ 1000000 ∧ ∀ p ∈ l, p.1.length ≤ 9223372036854775807
theorem Sml.len {l : List GPair} (h : Sml l) : l.length ≤ 9223372036854775807 := by have := h.1; omega
theorem ref03_As_eq (l : List GPair) (h : Sml l) : ref03_As l = some (countsL l) := by
  unfold ref03_As countsL
  rw [ref03_Sane_eq l h.len h.2, callM_some]
  simp only [letE_eq, iteM_not]
  cases saneB l <;> rfl
theorem Sml.counts {l : List GPair} (h : Sml l) : Sml (countsL l) := by
  unfold countsL
  split
  · exact h
  · exact ⟨by simp, by simp⟩
theorem Sml.sub {l m : List GPair} (h : Sml l) (hs : m.Sublist l) : Sml m := ⟨Nat.le_trans hs.length_le h.1, fun p hp => h.2 p (hs.subset hp)⟩

theorem ref03_Get_eq (l : List GPair) (n : Str) (h : Sml l) : ref03_Get l n = some (getL l n) := by
  unfold ref03_Get
  rw [ref03_As_eq l h, callM_some]
  simp only [letE_eq]
  have hl := countsL_len l
  unfold getL
  generalize countsL l = m at *
  refine (loopM_nat m.length (fun i => getFrom n (m.drop i)) ?_ ?_).trans (by simp)
  · intro i hi
    simp only [iteM_dec, idxM_get (pr_get hi)]
    rw [if_pos (by omega), drop_pr hi]
    by_cases hn : (pr m i).1 = n
    · left; rw [if_pos hn]; simp [getFrom, hn]
    · right; rw [if_neg hn, wI_of (by omega)]; exact ⟨by simp, by simp [getFrom, hn]⟩
  · simp only [iteM_dec]
    rw [if_neg (by omega)]
    simp [getFrom]
theorem ref03_Without_eq (l : List GPair) (n : Str) (h : Sml l) : ref03_Without l n = some (withoutL l n) := by
  unfold ref03_Without
  rw [ref03_As_eq l h, callM_some]
  simp only [letE_eq, tokM_eq]
  have hl := countsL_len l
  unfold withoutL
  generalize countsL l = m at *
  refine (loopM_natB m.length (fun i a => a.length ≤ i) (fun i a => a ++ (m.drop i).filter fun p => !decide (p.1 = n)) ?_ ?_ (Nat.le_refl _)).trans (by simp)
  · intro i a hi ha
    right
    simp only [iteM_dec, idxM_get (pr_get hi), iteM_not, letO_eq]
    rw [if_pos (by omega), drop_pr hi]
    by_cases hn : (pr m i).1 = n
    · rw [if_pos hn, wI_of (by omega)]
      exact ⟨a, by simp, by omega, by simp [hn]⟩
    · rw [if_neg hn, gdM_pos (by simp; omega), wI_of (by omega)]
      exact ⟨a ++ [pr m i], by simp, by simp; omega, by simp [hn]⟩
  · intro a ha
    simp only [iteM_dec]
    rw [if_neg (by omega)]
    simp
theorem ref03_order_eq (a b : Str) : ref03_order a b = some (cmpS a b) := by
  unfold ref03_order cmpS
  simp only [letE_eq, iteM_if, retM_eq]
  split
  · rfl
  · split <;> rfl
theorem ref03_Compare_eq (x y : List GPair) (hx : Sml x) (hy : Sml y) : ref03_Compare x y = some (compareL x y) := by
  unfold ref03_Compare
  rw [ref03_As_eq x hx, callM_some, ref03_As_eq y hy, callM_some]
  have ha := countsL_len x
  have hb := countsL_len y
  unfold compareL
  simp only [letE_eq]
  generalize countsL x = a at *
  generalize countsL y = b at *
  refine (loopM_nat a.length (fun i => if b.length < i then 1 else cmpLs (a.drop i) (b.drop i)) ?_ ?_).trans (by simp)
  · intro i hi
    simp only [idxM_get (pr_get hi), ref03_order_eq, callM_some, drawM_eq, bif_and, iteM_not]
    rw [decide_eq_true (show (i : Int) < (a.length : Int) by omega), Bool.true_and, iteM_dec, drop_pr hi]
    by_cases hib : b.length ≤ i
    · left; rw [if_neg (by omega), List.drop_eq_nil_of_le hib]
      simp only [iteM_dec]
      rw [if_neg (by omega), if_pos (by omega)]
      simp [cmpLs]
    · rw [if_pos (by omega), idxM_get (pr_get (l := b) (by omega)), drop_pr (l := b) (by omega)]
      simp only [callM_some, iteM_dec, wI_of (show -9223372036854775808 ≤ (i : Int) + 1 ∧ (i : Int) + 1 ≤ 9223372036854775807 by omega)]
      by_cases h1 : cmpS (pr a i).1 (pr b i).1 = 0
      · rw [if_pos h1]
        by_cases h2 : cmpS (pr a i).2 (pr b i).2 = 0
        · right; rw [if_pos h2]; exact ⟨by simp, by rw [if_neg (by omega), if_neg (by omega)]; simp [cmpLs, cmpP, h1, h2]⟩
        · left; rw [if_neg h2, if_neg (by omega)]; simp [cmpLs, cmpP, h1, h2]
      · left; rw [if_neg h1, if_neg h1, if_neg (by omega)]; simp [cmpLs, cmpP, h1]
  · simp only [bif_and]
    rw [decide_eq_false (by omega), Bool.false_and, iteM_false, List.drop_length]
    simp only [iteM_dec]
    by_cases h : a.length < b.length
    · rw [if_pos (by omega), if_neg (by omega), drop_pr (l := b) h]; simp [cmpLs]
    · rw [if_neg (by omega)]
      by_cases h2 : b.length < a.length
      · rw [if_pos (by omega), if_pos h2]; simp
      · rw [if_neg (by omega), if_neg h2, List.drop_eq_nil_of_le (by omega)]; simp [cmpLs]
end Go.Proofs.Ytickejlolpoboaa.AM

/- The document's answer for labels: made, with, merged. -/
namespace Go.Proofs.Ytickejlolpoboaa.AM
open Go

theorem ref03_wrong_eq (l : List GPair) (h : Sml l) : ref03_wrong l = some (wrongE l) := by
  unfold ref03_wrong
  simp only [letE_eq, iteM_dec]
  by_cases h16 : 16 < l.length
  · rw [if_pos (by omega), wrongE, if_pos h16]; rfl
  rw [if_neg (by omega)]
  have hname : ∀ i, i < l.length → ref03_Name (pr l i).1 = some (nameB (pr l i).1) := fun i hi => ref03_Name_eq _ (h.2 _ (List.mem_of_getElem? (pr_get hi)))
  refine (loopM_nat l.length (fun i => if (l.drop i).any tooLong then 4 else if l.all (fun p => nameB p.1) then (if twice l then 6 else 0) else 7) ?_ ?_).trans ?_
  · intro i hi
    simp only [iteM_dec, idxM_get (pr_get hi)]
    rw [if_pos (by omega), drop_pr hi]
    by_cases ht : 64 < (pr l i).2.length
    · left; rw [if_pos (by omega)]; simp [tooLong, ht]
    · right; rw [if_neg (by omega), wI_of (by omega)]
      refine ⟨by simp, ?_⟩
      have : tooLong (pr l i) = false := by simp only [tooLong, decide_eq_false_iff_not]; omega
      simp [this]
  · rw [if_neg (by omega)]
    simp only [List.drop_length, List.any_nil, Bool.false_eq_true, if_false]
    rw [loopM_nat l.length (fun i => if (l.drop i).all (fun p => nameB p.1) then (if twice l then 6 else 0) else 7) ?_ ?_]
    · rfl
    · intro i hi
      simp only [iteM_dec, idxM_get (pr_get hi), hname i hi, callM_some, iteM_not]
      rw [if_pos (by omega), drop_pr hi]
      cases hn : nameB (pr l i).1
      · left; simp [hn]
      · right; rw [wI_of (by omega)]
        exact ⟨by simp, by simp [hn]⟩
    · rw [if_neg (by omega)]
      simp only [List.drop_length, List.all_nil, if_true]
      rw [loopM_natJ l.length (fun i => ∀ j, j < i → (l.take j).any (fun q => decide (q.1 = (pr l j).1)) = false) (fun _ => if twice l then 6 else 0) ?_ ?_ (fun j hj => by omega)]
      · rfl
      · intro i hi hj
        simp only [iteM_dec, idxM_get (pr_get hi)]
        rw [if_pos (by omega)]
        have inner := loopM_nat (ph := fun (x20 : Int) => [(0, sl cGPair l), (5, vI (i : Int)), (6, vI x20)]) (ob := fun _ => []) (step := fun x20 : Int => if x20 < (i : Int) then idxM l x20 fun x23 => if (pr l i).Name = x23.Name then exitM (exitM (retM (6 : Int))) else nextM (wI (x20 + 1)) else exitM (nextM (wI ((i : Int) + 1)))) i
          (fun k => if ((l.take i).drop k).any (fun q => decide (q.1 = (pr l i).1)) then (.inr 6 : Int ⊕ Int) else .inl ((i + 1 : Nat) : Int)) ?_ ?_
        · rw [inner]
          simp only [List.drop_zero]
          cases hs : (l.take i).any (fun q => decide (q.1 = (pr l i).1))
          · right
            refine ⟨by simp, fun j hj' => ?_, trivial⟩
            by_cases e : j = i
            · subst e; exact hs
            · exact hj j (by omega)
          · left; rw [twice_take hi hs]; simp
        · intro k hk
          have hkl : k < (l.take i).length := by simp; omega
          have hpk : pr (l.take i) k = pr l k := by
            have h1 := pr_get hkl
            rw [List.getElem?_take, if_pos hk, pr_get (by omega)] at h1
            exact (Option.some.inj h1).symm
          rw [if_pos (by omega), idxM_get (pr_get (show k < l.length by omega)), drop_pr hkl, hpk]
          by_cases e : (pr l i).1 = (pr l k).1
          · left; rw [if_pos e]; simp [e]
          · right; rw [if_neg e, wI_of (by omega)]
            have e2 : ¬ (pr l k).Name = (pr l i).Name := fun e' => e e'.symm
            exact ⟨by simp, by simp [e2]⟩
        · rw [if_neg (by omega), wI_of (by omega)]
          simp
      · intro hj
        rw [if_neg (by omega)]
        have htw : twice l = false := twice_none hj
        simp [htw]
  · simp only [List.drop_zero, wrongE, h16, if_false, Option.some.injEq]

def posR (out : List GPair) (p : GPair) : Nat → Nat
  | 0 => 0
  | k + 1 => if ltS p.1 (pr out k).1 then posR out p k else k + 1
theorem posR_le (out : List GPair) (p : GPair) : ∀ k, posR out p k ≤ k
  | 0 => Nat.le_refl _
  | k + 1 => by
    unfold posR
    split
    · have := posR_le out p k; omega
    · exact Nat.le_refl _
theorem posR_hi (out : List GPair) (p : GPair) : ∀ k j, posR out p k ≤ j → j < k → ltS p.1 (pr out j).1 = true
  | 0, j, _, h => by omega
  | k + 1, j, h1, h2 => by
    unfold posR at h1
    split at h1
    · rename_i hk
      by_cases e : j = k
      · subst e; exact hk
      · exact posR_hi out p k j h1 (by omega)
    · omega
theorem posR_lo (out : List GPair) (p : GPair) : ∀ k, posR out p k = 0 ∨ ltS p.1 (pr out (posR out p k - 1)).1 = false
  | 0 => .inl rfl
  | k + 1 => by
    unfold posR
    split
    · exact posR_lo out p k
    · rename_i h; right; simpa using h
def insR (out : List GPair) (p : GPair) : List GPair := out.take (posR out p out.length) ++ [p] ++ out.drop (posR out p out.length)
theorem insR_perm (out : List GPair) (p : GPair) : (insR out p).Perm (p :: out) := by
  have e : insR out p = out.take (posR out p out.length) ++ p :: out.drop (posR out p out.length) := by unfold insR; simp
  rw [e]
  refine List.perm_middle.trans (List.Perm.cons p ?_)
  rw [List.take_append_drop]
theorem asc_get {l : List GPair} (h : Asc l) {i j : Nat} (hij : i < j) (hj : j < l.length) : ltS (pr l j).1 (pr l i).1 = false := by
  have h1 := List.pairwise_iff_getElem.1 h i j (by omega) hj hij
  have e1 := pr_get (l := l) (k := i) (by omega)
  have e2 := pr_get (l := l) (k := j) hj
  rw [List.getElem?_eq_getElem (by omega)] at e1 e2
  rw [← Option.some.inj e1, ← Option.some.inj e2]; exact h1
theorem insR_asc {out : List GPair} (h : Asc out) (p : GPair) : Asc (insR out p) := by
  have hle := posR_le out p out.length
  have hhi := posR_hi out p out.length
  have hlo := posR_lo out p out.length
  unfold insR Asc
  generalize posR out p out.length = k at *
  have htk : ∀ x ∈ out.take k, ltS p.1 x.1 = false := by
    intro x hx
    obtain ⟨i, hi, rfl⟩ := List.mem_take_iff_getElem.1 hx
    rcases hlo with h0 | h0
    · omega
    · have e1 := pr_get (l := out) (k := i) (by omega)
      rw [List.getElem?_eq_getElem (by omega)] at e1
      rw [Option.some.inj e1]
      by_cases e : i = k - 1
      · subst e; exact h0
      · exact ltS_ntrans h0 (asc_get h (show i < k - 1 by omega) (by omega))
  have hdr : ∀ x ∈ out.drop k, ltS p.1 x.1 = true := by
    intro x hx
    obtain ⟨i, hi, rfl⟩ := List.mem_drop_iff_getElem.1 hx
    have e1 := pr_get (l := out) (k := k + i) (by omega)
    rw [List.getElem?_eq_getElem (by omega)] at e1
    rw [Option.some.inj e1]
    exact hhi (k + i) (by omega) (by omega)
  rw [List.append_assoc, List.pairwise_append]
  have hsplit := h
  rw [Asc, ← List.take_append_drop k out, List.pairwise_append] at hsplit
  refine ⟨hsplit.1, ?_, ?_⟩
  · rw [List.singleton_append, List.pairwise_cons]
    exact ⟨fun x hx => ltS_asymm (hdr x hx), hsplit.2.1⟩
  · intro x hx y hy
    rw [List.singleton_append] at hy
    rcases List.mem_cons.1 hy with rfl | hy
    · exact htk x hx
    · exact hsplit.2.2 x hx y hy

theorem ref03_Make_eq (l : List GPair) (h : Sml l) : ref03_Make l = some (makeL l) := by
  unfold ref03_Make
  rw [ref03_wrong_eq l h, callM_some]
  simp only [letE_eq, iteM_not, iteM_dec, tokM_eq]
  by_cases hw : wrongE l = 0
  · rw [if_pos hw]
    have hg := wrongE_zero.1 hw
    rw [makeL_good hg]
    have h16 := hg.len
    refine (loopM_natB l.length (fun i out => out.Perm (l.take i) ∧ Asc out) (fun _ _ => (sortP l, 0)) ?_ ?_ ⟨by simp, by simp [Asc]⟩).trans rfl
    · rintro i out hi ⟨hp, ha⟩
      right
      have hlen : out.length = i := by rw [hp.length_eq]; simp; omega
      refine ⟨insR out (pr l i), ?_, ⟨?_, insR_asc ha _⟩, rfl⟩
      · simp only [iteM_dec, joinM_eq]
        rw [if_pos (by omega)]
        have inner := loopM_down (ph := fun (x8 : Int) => [(0, sl cGPair l), (5, so 0 cGPair out), (6, vI (i : Int)), (7, vI x8)]) (ob := fun (x8 : Int) => [tk out.length 2 29]) (β := Int ⊕ (List GPair × Int ⊕ List GPair × Int)) (step := fun x8 : Int => if (0 : Int) < x8 then idxM out (wI (x8 - 1)) fun x11 => idxM l (i : Int) fun x12 => iteM (ltS x12.Name x11.Name) (nextM (wI (x8 - 1))) (exitM (nextM x8)) else exitM (nextM x8))
          (fun k => .inl ((posR out (pr l i) k : Nat) : Int)) ?_ out.length ?_
        · rw [inner]
          have hk := posR_le out (pr l i) out.length
          simp only [Option.bind_some, Sum.elim_inl]
          have t1 : (out.take ((posR out (pr l i) out.length : Nat) : Int).toNat).drop (0 : Int).toNat = out.take (posR out (pr l i) out.length) := by simp
          have t2 : (out.take (out.length : Int).toNat).drop ((posR out (pr l i) out.length : Nat) : Int).toNat = out.drop (posR out (pr l i) out.length) := by simp
          rw [gdM_pos (by omega), t1, t2, gdM_pos (by simp; omega)]
          simp only [letO_eq, swapM_eq, nextM_eq]
          rw [idxM_get (pr_get hi), gdM_pos (by simp; omega), gdM_pos (by omega), gdM_pos (by simp; omega), wI_of (by omega)]
          rfl
        · simp [posR]
        · intro k hk
          rw [if_pos (by omega), wI_of (by omega), idxM_of (x := pr out k) (by omega) (by rw [show (((k + 1 : Nat) : Int) - 1).toNat = k from by omega]; exact pr_get hk), idxM_get (pr_get hi)]
          cases hlt : ltS (pr l i).1 (pr out k).1
          · left; simp [posR, hlt]
          · right; rw [show ((k + 1 : Nat) : Int) - 1 = (k : Int) from by omega]; simp [posR, hlt]
      · refine (insR_perm out _).trans ?_
        rw [take_pr hi]
        exact (List.Perm.cons _ hp).trans (List.perm_append_comm (l₁ := [pr l i]) (l₂ := l.take i))
    · rintro out ⟨hp, ha⟩
      rw [if_neg (by omega)]
      rw [List.take_length] at hp
      rw [sortP_eq hg.once hp ha]; rfl
  · rw [if_neg hw, makeL_of rfl hw]; rfl

theorem ref03_With_eq (l : List GPair) (n v : Str) (h : Sml l) (hn : n.length ≤ 9223372036854775807) : ref03_With l n v = some (withL l n v) := by
  unfold ref03_With
  have hw := withoutL_len l n
  rw [ref03_Without_eq l n h, callM_some]
  simp only [letE_eq, letO_eq, List.nil_append]
  rw [gdM_pos (by simp; omega), gdM_pos (by simp; omega), ref03_Make_eq _ ⟨by simp; omega, fun p hp => ?_⟩, callM_some]
  · rfl
  · rcases List.mem_append.1 hp with hp | hp
    · have hc := h.counts
      exact hc.2 p (List.mem_filter.1 hp).1
    · simp only [List.mem_singleton] at hp; subst hp; exact hn

/-- what is merged, name by name taken away -/
def without1 (l : List GPair) (n : Str) : List GPair := l.filter fun p => !decide (p.1 = n)
theorem fold_rest : ∀ (b a : List GPair), b.foldl (fun r p => without1 r p.1) a = rest a b
  | [], a => by
    simp only [List.foldl_nil, rest]
    exact (List.filter_eq_self.2 fun q _ => by simp [getFrom]).symm
  | p :: b, a => by
    rw [List.foldl_cons, fold_rest b]
    unfold rest without1
    rw [List.filter_filter]
    refine List.filter_congr fun q _ => ?_
    simp only [getFrom]
    by_cases h : p.1 = q.1
    · rw [if_pos h]; simp [h]
    · rw [if_neg h]; simp; intro _ e; exact h e.symm
theorem ref03_Merge_eq (a b : List GPair) (ha : Sml a) (hb : Sml b) : ref03_Merge a b = some (mergeL a b) := by
  unfold ref03_Merge
  rw [ref03_As_eq a ha, callM_some]
  simp only [letE_eq, letO_eq, List.nil_append]
  have la := countsL_len a
  have lb := countsL_len b
  rw [gdM_pos (by simp; omega), ref03_As_eq b hb, callM_some]
  have hm : mergeL a b = makeL (rest (countsL a) (countsL b) ++ countsL b) := by
    unfold mergeL rest
    have hs : countsL (countsL b) = countsL b := by
      unfold countsL; by_cases h : saneB b = true <;> simp [h]
    simp only [getL, hs]
  rw [hm]
  have hsa : saneB (countsL a) = true := by unfold countsL; by_cases h : saneB a = true <;> simp [h]; rfl
  have hma := ha.counts
  have hmb := hb.counts
  generalize countsL a = x at *
  generalize countsL b = y at *
  simp only [shM_eq]
  refine (loopM_natB y.length (fun i r => r = (y.take i).foldl (fun r p => without1 r p.1) x) (fun _ _ => makeL (rest x y ++ y)) ?_ ?_ rfl).trans rfl
  · rintro i r hi rfl
    right
    have hsub : ((y.take i).foldl (fun r p => without1 r p.1) x).Sublist x := by rw [fold_rest]; exact List.filter_sublist
    have hlr := hsub.length_le
    simp only [iteM_dec, idxM_get (pr_get hi), swapM_eq]
    rw [if_pos (by omega), ref03_Without_eq _ _ (hma.sub hsub), callM_some, withoutL_sane (sane_sub hsa hsub)]
    have hlf := List.length_filter_le (fun p : GPair => !decide (p.1 = (pr y i).1)) ((y.take i).foldl (fun r p => without1 r p.1) x)
    rw [gdM_pos (by simp only [List.length_nil]; omega), wI_of (by omega)]
    refine ⟨_, by simp only [nextM_eq]; rfl, ?_, trivial⟩
    rw [take_pr hi, List.foldl_append]; rfl
  · rintro r rfl
    simp only [iteM_dec]
    rw [if_neg (by omega), List.take_length, fold_rest]
    have hsub : (rest x y).Sublist x := List.filter_sublist
    have hlr := hsub.length_le
    rw [gdM_pos (by omega), ref03_Make_eq _ ⟨by simp; omega, fun p hp => ?_⟩, callM_some]
    · rfl
    · rcases List.mem_append.1 hp with hp | hp
      · exact (hma.sub hsub).2 p hp
      · exact hmb.2 p hp

theorem makeL_len (l : List GPair) : (makeL l).1.length ≤ l.length := by
  unfold makeL
  split
  · rw [(sortP_perm l).length_eq]; exact Nat.le_refl _
  · simp

theorem law03_LabelIs_pl (a b : List GPair) (n v : Str) (ha : a.length ≤ 9223372036854775807) (hb : b.length ≤ 9223372036854775807) (hsa : ∀ p ∈ a, p.1.length ≤ 9223372036854775807) (hsb : ∀ p ∈ b, p.1.length ≤ 9223372036854775807) (hn : n.length ≤ 9223372036854775807) : law03_LabelIs a b n v = some true := by
  unfold law03_LabelIs
  simp only [letE_eq, law03_awake_eq, callM_some, ref03_Few_eq a ha, ref03_Few_eq b hb, bif_or, bif_and, iteM_not]
  cases f1 : fewB a
  · rfl
  rw [iteM_true]
  by_cases h0 : ((!fewB b || decide ((1000 : Int) < (n.length : Int))) || decide ((1000 : Int) < (v.length : Int))) = true
  · rw [h0]; rfl
  rw [Bool.not_eq_true] at h0
  rw [h0, iteM_false]
  have f2 : fewB b = true := by
    cases h : fewB b
    · rw [h] at h0; simp at h0
    · rfl
  have l1 := fewB_len f1
  have l2 := fewB_len f2
  have sa : Sml a := ⟨by omega, hsa⟩
  have sb : Sml b := ⟨by omega, hsb⟩
  have w1 := withoutL_len a n
  have same : ∀ x : List GPair, x.length ≤ 1000000 → ref03_Same x x = some true := fun x hx => by rw [ref03_Same_eq _ _ (by omega)]; simp
  have e1 := same _ (show (makeL a).1.length ≤ 1000000 by have := makeL_len a; omega)
  have e2 := same _ (show (withL a n v).1.length ≤ 1000000 by have := makeL_len (withoutL a n ++ [⟨n, v⟩]); unfold withL; simp at this ⊢; omega)
  have e3 := same _ (show (mergeL a b).1.length ≤ 1000000 by
    have := makeL_len ((countsL a).filter (fun p => !(getL (countsL b) p.1).2) ++ countsL b)
    have h1 := List.length_filter_le (fun p : GPair => !(getL (countsL b) p.1).2) (countsL a)
    have h2 := countsL_len a
    have h3 := countsL_len b
    unfold mergeL; simp only [List.length_append] at this; omega)
  have e4 := same _ (show (withoutL a n).length ≤ 1000000 by omega)
  simp only [label_Make_eq, ref03_Make_eq a sa, label_Get_eq, ref03_Get_eq a n sa, label_With_eq, ref03_With_eq a n v sa hn, label_Merge_eq, ref03_Merge_eq a b sa sb, callM_some, e1, e2, e3,
    label_Name_eq, ref03_Name_eq n hn, label_Sane_eq, ref03_Sane_eq a ha hsa, label_Without_eq, ref03_Without_eq a n sa, e4, label_Compare_eq, ref03_Compare_eq a b sa sb]
  simp
end Go.Proofs.Ytickejlolpoboaa.AM

/- LabelIs, at every input. -/
namespace Go.Proofs.Ytickejlolpoboaa.AM
open Go
theorem law03_LabelIs_eq (a b : List GPair) (n v : Str) (h : okL okGPair a) (k : okL okGPair b) (l : okS n) (_ : okS v) : law03_LabelIs a b n v = some true :=
  law03_LabelIs_pl a b n v (by have := h.1; simpa [maxLen] using this) (by have := k.1; simpa [maxLen] using this)
    (fun p hp => by have := (h.2 p hp).1; simpa [okS, maxLen] using this) (fun p hp => by have := (k.2 p hp).1; simpa [okS, maxLen] using this) (by simpa [okS, maxLen] using l)
end Go.Proofs.Ytickejlolpoboaa.AM
