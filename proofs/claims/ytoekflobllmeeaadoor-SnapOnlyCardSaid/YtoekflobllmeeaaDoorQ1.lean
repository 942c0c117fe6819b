/- A part of the proof: Zm. -/
import Derived.Test.YtoekflobllmeeaaDoorP1
import Derived.Test.YtoekflobllmeeaaDoorOk
set_option linter.all false
/- What is got was put. -/
namespace Go.Proofs.YtoekflobllmeeaaDoor.AM
open Go
theorem law20_SnapOnly_eq (b : List Int) (b0 : okL (okI .u8) b) : law20_SnapOnly b = some true := by
  have ho : Oct b := by
    intro c hc
    obtain ⟨h1, h2⟩ := b0.2 c hc
    have e1 : IntKind.u8.min = 0 := rfl
    have e2 : IntKind.u8.max = 255 := rfl
    rw [e1] at h1; rw [e2] at h2; omega
  unfold law20_SnapOnly
  rw [awake_eq, callM_some]
  simp only [letE_eq, iteM_dec, retM_eq, iteM_not, drawM_eq]
  split
  · rfl
  rw [snap_Get_eq ho, callM_some]
  by_cases he : (getD' b).2 = 0
  · rw [if_pos he]
    obtain ⟨h1, _, h3⟩ := get_only ho (show getD' b = ((getD' b).1, 0) by rw [← he])
    rw [iteM_true, snap_Sane_eq, callM_some, h1, iteM_true, snap_Put_eq, callM_some, if_pos h1, h3]
    simp
  · rw [if_neg he, get_bad he]; rfl
end Go.Proofs.YtoekflobllmeeaaDoor.AM
