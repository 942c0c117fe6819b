/- A part of the proof: RwLabelMerges. -/
import Derived.Test.YtickejlolpoboaaEqLabelMerges
import Derived.Test.YtickejlolpoboaaSh
import Derived.Test.YtickejlolpoboaaRb
set_option linter.all false
/- The law LabelMerges: for every input it answers true, and each argument reads behind the call as it read before. No condition. -/
namespace Go.Proofs.Ytickejlolpoboaa
open Go Go.ChangeShapes Go.WideShapes Go.RowKit Go.Proofs.Ytickejlolpoboaa.AM

theorem labelMerges_args (xs : List AV) (h : argsOk Try.prog 9 Try.f5.params.toList xs) : Fun Try.prog 5 xs (.v (.bool true)) [] := by
  rw [show Try.f5.params.toList = [22, 22, 9] from by rw [Try.params5]] at h
  obtain ⟨d0, y0, g0, rfl, h0⟩ := h
  obtain ⟨d1, y1, g1, rfl, h1⟩ := h0
  obtain ⟨d2, y2, g2, rfl, h2⟩ := h1
  cases h2
  obtain ⟨x0, e0, b0⟩ := open_22 g0
  obtain ⟨x1, e1, b1⟩ := open_22 g1
  obtain ⟨x2, e2, b2⟩ := open_9 g2
  rw [e0, e1, e2]
  exact law03_LabelMerges_run (law03_LabelMerges_eq x0 x1 x2 b0 b1 b2)

set_option maxRecDepth 100000 in
theorem labelMerges_lifted (os : Os) (started : os.Started) (H : Type) (enc : TypeId × Value → H) :
    ReturnsInHanded {} Try.checked os 5 .any (Rows.labelMergesSpec.pre6 enc Try.prog Try.f5 Rows.labelMergesRow.domain false) (Rows.labelMergesSpec.post enc Try.prog Try.f5 false true false false) := by
  refine returnsInHanded_of_change (C := Try.checked) rowOwn started (by kernel_rfl) Try.func5
    (ChangeSpec.witness6 (enc := enc) (C := Try.checked) false ⟨#[], #[.slice none 0 0, .slice none 0 0, .string ByteArray.empty], []⟩ 8 (by kernel_rfl) (by kernel_rfl) (by kernel_rfl) (by kernel_rfl)) ?_
  intro W base args ds gs before hval hW hcnd _
  refine law_calls (n := 9) (bt := 4) rfl (by kernel_rfl) (un_of rfl) ?_ (by kernel_rfl) rowLaid (fun xs hxs => labelMerges_args xs hxs) hval hW
  intro ds hl
  have hl' : ds.length = 3 := by rw [hl, Try.params5]; rfl
  match ds, hl' with
  | [d0, d1, d2], _ => exact ⟨rfl, rfl, rfl⟩

theorem labelMerges_over : Rows.labelMergesRow.holds Try.pinned (OpenSpec.ofChange Rows.labelMergesSpec) :=
  OpenClaim.holds_of_wide 5 Try.f5 rfl rfl rfl rfl rfl rfl rfl ⟨rfl, rfl, rfl, rfl, rfl⟩ rfl rfl rfl rfl rfl (by kernel_rfl) Try.func5 (by kernel_rfl)
    (of_decide_eq_true (by kernel_rfl)) (by unfold Func.isWrapper; first | (rw [if_pos (by decide +kernel)]; kernel_rfl) | (rw [if_neg (by decide +kernel)]; exact ⟨rfl, rfl⟩))
    (fun os started H enc _ => labelMerges_lifted os started H enc)

theorem labelMerges_holds : Rows.LabelMergesSaid := labelMerges_over
#print axioms labelMerges_holds
end Go.Proofs.Ytickejlolpoboaa
