/- A part of the proof: Yk. -/
import Derived.Test.YtnlbgjlbbdngaaaDoorYj
set_option linter.all false
/- TableKeeps: the plain law. -/
namespace Go.Proofs.YtnlbgjlbbdngaaaDoor.AM
open Go

theorem stepT_nil {t : GTable} (now d u : Int) (hT : TabOk t) : stepT t [] now d u = ⟨keptL [] now d u t.A, t.Full⟩ := by
  have e0 : cntT t = t := cntT_of (tabB_iff.2 hT)
  unfold stepT
  rw [e0]
  have : stepS t (dist []) now d u = (t.Full, keptL [] now d u t.A) := rfl
  rw [this]
  simp only
  rw [sortA_of (keptL_asc hT.asc)]
theorem stepT_full {t : GTable} (f : List GFound) (now d u : Int) (hT : TabOk t) : t.Full ≤ (stepT t f now d u).Full := by
  have e0 : cntT t = t := cntT_of (tabB_iff.2 hT)
  unfold stepT
  rw [e0]
  exact (foldS_full (dist f) (t.Full, keptL (dist f) now d u t.A) hT.full.2).1
theorem findA_mem {A : List GAlert} {l : List GPair} (h : ∃ a ∈ A, a.L = l) : (findA A l).2 = true := by
  unfold findA
  cases e : A.find? (fun a => decide (a.L = l)) with
  | some a => rfl
  | none =>
    obtain ⟨a, ha, hl⟩ := h
    exact absurd hl (find_none (lab := GAlert.L) e a ha)
def actN (A : List GAlert) : Nat := (A.filter fun a => !decide (a.State = 0)).length
theorem actN_le (A : List GAlert) : actN A ≤ A.length := List.length_filter_le _ _
theorem actN_take {A : List GAlert} {i : Nat} (hi : i < A.length) : actN (A.take (i + 1)) = actN (A.take i) + if (nth A i).State = 0 then 0 else 1 := by
  unfold actN
  rw [take_nth hi, List.filter_append, List.length_append]
  congr 1
  by_cases h : (nth A i).State = 0 <;> simp [h]
theorem law17_TableKeeps_pl (t : GTable) (f : List GFound) (now d u : Int) (h1 : t.A.length ≤ 9223372036854775807) (h2 : ∀ a ∈ t.A, a.L.length ≤ 9223372036854775807) (h3 : f.length ≤ 9223372036854775807) (h4 : ∀ a ∈ f, a.L.length ≤ 9223372036854775807) : law17_TableKeeps t f now d u = some true := by
  unfold law17_TableKeeps
  rw [awake_eq, callM_some, ref17_Few_eq t h1 h2, callM_some, ref17_FewFound_eq f h3 h4, table_Sane_eq]
  simp only [letE_eq, iteM_not, callM_some, retM_eq]
  cases fewT t.A
  · rfl
  cases hF : fewF f
  · rfl
  cases hB : tabB t
  · rfl
  simp only [iteM_true]
  have hf := fewF_len hF
  have hT := tabB_iff.1 hB
  rw [table_Step_eq _ _ _ _ (by omega), callM_some, table_Step_eq _ _ _ _ (by simp), callM_some]
  have k1 := stepT_ok t f now d u
  have k2 := stepT_ok t [] now d u
  have kf := stepT_full f now d u hT
  have kn := stepT_nil now d u hT
  have e0 : cntT t = t := cntT_of hB
  have e1 : cntT (stepT t f now d u) = stepT t f now d u := cntT_of (tabB_iff.2 k1)
  generalize stepT t f now d u = t1 at *
  generalize stepT t [] now d u = t2 at *
  have hl1 := k1.len
  have hl2 := k2.len
  have ha1 := actN_le t1.A
  refine loopM_ix (fun s => s.2) (fun i => ((actN (t1.A.take i) : Int), (i : Int))) t1.A.length _ (fun _ => rfl) ?_ ?_ (by simp [actN])
  · intro i hi
    simp only [iteM_dec, idxM_get (nth_get hi)]
    have ha := actN_le (t1.A.take i)
    rw [List.length_take] at ha
    rw [if_pos (by omega), actN_take hi, wI_of (x := (i : Int) + 1) (by omega), wI_of (by omega)]
    by_cases h : (nth t1.A i).State = 0
    · rw [if_pos h, if_pos h]; simp
    · rw [if_neg h, if_neg h]; simp
  · simp only [iteM_dec]
    rw [if_neg (by omega), List.take_length]
    have : ∀ {e : Option Bool}, e = some true → exitM (σ := Int × Int) e = some (.inr true) := fun h => by rw [h]; rfl
    refine this ?_
    refine loopM_true (fun i : Int => ∃ k : Nat, i = k ∧ k ≤ t2.A.length) (fun i : Int => ((t2.A.length : Int) - i).toNat) ?_ ⟨0, rfl, Nat.zero_le _⟩
    rintro i ⟨k, rfl, hk⟩
    by_cases hkl : k < t2.A.length
    · right
      have hmem := nth_mem hkl
      have hs := alOk_sane (k2.each _ hmem)
      rw [if_pos (by omega), tailA_eq, idxM_get (nth_get hkl), table_Find_eq hs, callM_some, e0, wI_of (by omega)]
      rw [findA_mem]
      · exact ⟨((k + 1 : Nat) : Int), by simp, ⟨k + 1, rfl, by omega⟩, by omega⟩
      · rw [kn] at hmem
        obtain ⟨a, ha, _, e⟩ := keptL_mem hmem
        exact ⟨a, ha, by rw [kn]; exact e.symm⟩
    · left
      rw [if_neg (by omega)]
      simp only [iteM_true, table_Sane_eq, callM_some, tabB_iff.2 k1, tabB_iff.2 k2, table_Active_eq, e1]
      have n1 : (t1.A.filter fun a => !decide (a.State = 0)).length = actN t1.A := rfl
      rw [n1, if_pos rfl, if_pos kf, if_pos (by rw [kn])]
      have : t2.A.length ≤ t.A.length := by rw [kn]; exact List.length_filterMap_le _ _
      rw [decide_eq_true (show (t2.A.length : Int) ≤ (t.A.length : Int) by omega)]
      rfl
end Go.Proofs.YtnlbgjlbbdngaaaDoor.AM
