/- A part of the proof: El. -/
import Derived.Test.YtcpjmkbcefmldaaGreatDoorP1
set_option linter.all false
/- EvalWrites: the plain law. -/
namespace Go.Proofs.YtcpjmkbcefmldaaGreatDoor.AM
open Go

theorem idx_last {β : Type} {S : List GSample} (h : S ≠ []) (hl : S.length ≤ 1000000) (m : GSample → Option β) : idxM S (wI ((S.length : Int) - 1)) m = m (nth S (S.length - 1)) := by
  have hp := List.length_pos_iff.2 h
  rw [wI_of (by omega), show ((S.length : Int) - 1) = ((S.length - 1 : Nat) : Int) from by omega, idxM_get (nth_get (by omega))]
theorem written_two {a : GAlert} (h : (writtenL a).2 = 0) : (withL a.L nmL alsL).2 = 0 ∧ writtenL a = withL (withL a.L nmL alsL).1 asL (stName a.State) := by
  unfold writtenL at h ⊢
  generalize withL a.L nmL alsL = p at *
  by_cases h1 : p.2 = 0
  · rw [if_pos h1]; exact ⟨h1, rfl⟩
  · rw [if_neg h1] at h; exact absurd h h1
theorem law19_EvalWrites_pl (st : List GSeries) (x : GTable) (t : Int) (h1 : st.length ≤ 9223372036854775807) (h2 : ∀ s ∈ st, s.L.length ≤ 9223372036854775807) (h3 : TabBd x) : law19_EvalWrites st x t = some true := by
  obtain ⟨b, hb, _⟩ := few14_len st h1 h2
  unfold law19_EvalWrites
  rw [awake_eq, callM_some, hb, callM_some, ref17_Few_eq _ h3.len h3.each, callM_some]
  simp only [letE_eq, iteM_not, callM_some, retM_eq, store_Sane_eq, table_Sane_eq, bif_or, bif_and]
  cases b
  · rfl
  cases fewT x.A
  · rfl
  cases hst : stB st
  · rfl
  have hok := stB_iff.1 hst
  have hlen := hok.len
  cases htb : tabB x
  · rfl
  by_cases ht1 : t < 0
  · rw [decide_eq_true ht1]; rfl
  by_cases ht2 : 9007199254740992 < t
  · rw [decide_eq_true ht2]; simp
  rw [decide_eq_false ht1, decide_eq_false ht2]
  simp only [iteM_true, Bool.not_true, Bool.or_self, iteM_false]
  refine loopM_natJ st.length (fun i => ∀ j, j < i → (nth (nth st j).S ((nth st j).S.length - 1)).T < t) (fun _ => true) ?_ ?_ (fun j hj => by omega)
  · intro i hi hJ
    have hs := hok.each _ (nth_mem hi)
    simp only [iteM_dec, idxM_get (nth_get hi), idx_last hs.2.1 (show (nth st i).S.length ≤ 1000000 by have := hs.2.2.len; omega)]
    rw [if_pos (by omega)]
    by_cases hc : t ≤ (nth (nth st i).S ((nth st i).S.length - 1)).T
    · left; rw [if_pos hc]; rfl
    · right
      rw [if_neg hc, wI_of (by omega)]
      refine ⟨by simp, fun j hj => ?_, trivial⟩
      by_cases hji : j < i
      · exact hJ j hji
      · have : j = i := by omega
        subst this; omega
  · intro hJ
    simp only [iteM_dec]
    rw [if_neg (by omega)]
    have hlt : ∀ g ∈ st, (nth g.S (g.S.length - 1)).T < t := fun g hg => by
      obtain ⟨k, hk, rfl⟩ := mem_nth hg
      exact hJ k hk
    have hW := WI.all hok hlt x
    rw [write_eq, callM_some, active_eq, callM_some]
    have hA16 := activeF_len x
    have hAs : ∀ a ∈ activeF x, a.State = 1 ∨ a.State = 2 := fun a h => activeF_state h
    generalize writeF st x t = w at *
    obtain ⟨s, off⟩ := w
    simp only at hW
    generalize activeF x = A at *
    have hs32 := hW.ok.len
    have key : ∀ m : Option Bool, m = some true → exitM (σ := Int) m = some (.inr true) := fun m h => by rw [h]; rfl
    refine key _ (loopM_natB s.length (fun i a => a = ((s.take i).countP (atT t) : Int)) (fun _ _ => true) ?_ ?_ (by simp))
    · intro i a hi ha
      right
      have hg := hW.ok.each _ (nth_mem hi)
      have hold := hW.old _ (nth_mem hi)
      have hcl : (s.take i).countP (atT t) ≤ i := Nat.le_trans List.countP_le_length (by rw [List.length_take]; omega)
      simp only [tailA_eq, iteM_dec, idxM_get (nth_get hi), idx_last hg.2.1 (show (nth s i).S.length ≤ 1000000 by have := hg.2.2.len; omega)]
      rw [if_pos (by omega), wI_of (x := (i : Int) + 1) (by omega), wI_of (x := a + 1) (by omega), take_nth hi, List.countP_append]
      rcases hold.le with hl | ⟨hl, hv⟩
      · refine ⟨a, ?_, ?_, trivial⟩
        · rw [if_neg (by omega), if_neg (by omega), if_neg (by omega)]; simp
        · have : atT t (nth s i) = false := by unfold atT; rw [decide_eq_false_iff_not]; omega
          simp [ha, this]
      · refine ⟨a + 1, ?_, ?_, trivial⟩
        · rw [if_pos hl, if_neg (by omega), if_pos hl, hv]; simp
        · have : atT t (nth s i) = true := by unfold atT; rw [decide_eq_true_eq]; omega
          simp [ha, this]
    · intro a ha
      simp only [iteM_dec]
      rw [if_neg (by omega)]
      rw [List.take_length] at ha
      have hcnt := hW.cnt
      rw [wI_of (by have := hW.pos; omega), if_pos (by omega)]
      rw [stB_iff.2 hW.ok, decide_eq_false (show ¬ (s.length : Int) < (st.length : Int) by have := hW.len; omega)]
      simp only [Bool.not_true, Bool.or_self, iteM_false]
      have key2 : ∀ m : Option Bool, m = some true → exitM (σ := Int × Int) m = some (.inr true) := fun m h => by rw [h]; rfl
      refine key2 _ (loopM_nat A.length (fun _ => true) ?_ ?_)
      · intro i hi
        by_cases ho : off = 0
        · right
          refine ⟨?_, rfl⟩
          obtain ⟨k1, g, hg, hgL, hat⟩ := hW.each ho _ (nth_mem hi)
          obtain ⟨k2, k3⟩ := written_two k1
          have hgok := hW.ok.each g hg
          have hx : ∀ {β : Type} (m : Str → Option β), idxM [[], [112, 101, 110, 100, 105, 110, 103], [102, 105, 114, 105, 110, 103]] (nth A i).State m = m (stName (nth A i).State) := fun m => by
            rcases hAs _ (nth_mem hi) with h | h <;> rw [h] <;> rfl
          rw [decide_eq_true (show (i : Int) < (A.length : Int) by omega), decide_eq_true ho]
          simp only [Bool.and_self, iteM_true, idxM_get (nth_get hi), label_With_eq, callM_some, hx]
          rw [show ([95, 95, 110, 97, 109, 101, 95, 95] : Str) = nmL from rfl, show ([65, 76, 69, 82, 84, 83] : Str) = alsL from rfl, show ([97, 108, 101, 114, 116, 115, 116, 97, 116, 101] : Str) = asL from rfl]
          rw [← k3, ← hgL, get_mem hW.ok hg, callM_some, k1, k2, idx_last hgok.2.1 (by have := hgok.2.2.len; omega)]
          have hp := List.length_pos_iff.2 hgok.2.1
          rw [decide_eq_false (show ¬ (g.S.length : Int) = 0 by omega)]
          have ht : (nth g.S (g.S.length - 1)).T = t := by unfold atT at hat; exact of_decide_eq_true hat
          rw [if_pos ht, wI_of (by omega)]
          rfl
        · left
          rw [decide_eq_false ho]
          simp
      · rw [decide_eq_false (show ¬ (A.length : Int) < (A.length : Int) by omega)]
        rfl
end Go.Proofs.YtcpjmkbcefmldaaGreatDoor.AM
