/- A part of the proof: EqLabelWith. -/
import Derived.Test.YtickejlolpoboaaP
import Derived.Test.YtickejlolpoboaaOk
set_option linter.all false
/- LabelWith: what is laid is got. -/
namespace Go.Proofs.Ytickejlolpoboaa.AM
open Go

theorem law03_LabelWith_pl (l : List GPair) (n v o : Str) (hl : l.length ≤ 9223372036854775807) : law03_LabelWith l n v o = some true := by
  unfold law03_LabelWith
  simp only [letE_eq, law03_awake_eq, callM_some, ref03_Few_eq l hl, bif_or, bif_and]
  by_cases h0 : (((!fewB l || decide ((1000 : Int) < (n.length : Int))) || decide ((1000 : Int) < (v.length : Int))) || decide ((1000 : Int) < (o.length : Int))) = true
  · rw [h0]; rfl
  rw [Bool.not_eq_true] at h0
  rw [h0, iteM_false, label_Sane_eq, callM_some, iteM_not]
  cases s1 : saneB l
  · rfl
  rw [iteM_true, label_With_eq, callM_some]
  have hlen := (saneB_iff.1 s1).1
  simp only [label_Get_eq, label_Without_eq, label_Name_eq, label_Sane_eq, callM_some, iteM_not, iteM_dec]
  rcases hm : withL l n v with ⟨m, e⟩
  by_cases he : e = 0
  · subst he
    obtain ⟨a1, a2, a3, a4, a5, a6⟩ := withL_ok s1 hm
    have l1 := withoutL_len l n
    have hwr : wI ((m.length : Int) - 1) = ((withoutL l n).length : Int) := by rw [wI_of (by omega)]; omega
    have hsame : ref03_Same (withoutL l n) (withoutL l n) = some true := by rw [ref03_Same_eq _ _ (by omega)]; simp
    by_cases ho : o = n
    · subst ho
      have c1 : getL (withoutL l o) o = ([], false) := by rw [getL_sane a6, withoutL_sane s1, getFrom_filter_same]
      simp [a1, a2, a4, a6, hwr, c1, hsame]
    · have c1 : getL (withoutL l n) o = getL l o := by rw [getL_sane a6, withoutL_sane s1, getFrom_filter ho, getL_sane s1]
      have c2 := a3 o ho
      simp [a1, a2, a4, a6, hwr, c1, c2, hsame, ho]
  · obtain ⟨b1, b2⟩ := withL_bad s1 hm he
    subst b1
    simp only [he, if_false, List.length_nil, retM_eq]
    rcases b2 with h | h | h
    · simp [h]
    · simp [show (64 : Int) < (v.length : Int) by omega]
    · simp [h]
theorem law03_LabelWith_eq (l : List GPair) (n v o : Str) (h : okL okGPair l) (_ : okS n) (_ : okS v) (_ : okS o) : law03_LabelWith l n v o = some true :=
  law03_LabelWith_pl l n v o (by have := h.1; simpa [maxLen] using this)
end Go.Proofs.Ytickejlolpoboaa.AM
