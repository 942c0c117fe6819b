/- A part of the proof: RwLabelCut. -/
import Derived.Test.YtickejlolpoboaaEqLabelCut
import Derived.Test.YtickejlolpoboaaSh
import Derived.Test.YtickejlolpoboaaRb
set_option linter.all false
/- The law LabelCut: for every input it answers true, and each argument reads behind the call as it read before. No condition. -/
namespace Go.Proofs.Ytickejlolpoboaa
open Go Go.ChangeShapes Go.WideShapes Go.RowKit Go.Proofs.Ytickejlolpoboaa.AM

theorem labelCut_args (xs : List AV) (h : argsOk Try.prog 9 Try.f6.params.toList xs) : Fun Try.prog 6 xs (.v (.bool true)) [] := by
  rw [show Try.f6.params.toList = [22, 3] from by rw [Try.params6]] at h
  obtain ⟨d0, y0, g0, rfl, h0⟩ := h
  obtain ⟨d1, y1, g1, rfl, h1⟩ := h0
  cases h1
  obtain ⟨x0, e0, b0⟩ := open_22 g0
  obtain ⟨x1, e1, b1⟩ := open_3 g1
  rw [e0, e1]
  exact law03_LabelCut_run (law03_LabelCut_eq x0 x1 b0 b1)

set_option maxRecDepth 100000 in
theorem labelCut_lifted (os : Os) (started : os.Started) (H : Type) (enc : TypeId × Value → H) :
    ReturnsInHanded {} Try.checked os 6 .any (Rows.labelCutSpec.pre6 enc Try.prog Try.f6 Rows.labelCutRow.domain false) (Rows.labelCutSpec.post enc Try.prog Try.f6 false true false false) := by
  refine returnsInHanded_of_change (C := Try.checked) rowOwn started (by kernel_rfl) Try.func6
    (ChangeSpec.witness6 (enc := enc) (C := Try.checked) false ⟨#[], #[.slice none 0 0, .int .i64 0], []⟩ 8 (by kernel_rfl) (by kernel_rfl) (by kernel_rfl) (by kernel_rfl)) ?_
  intro W base args ds gs before hval hW hcnd _
  refine law_calls (n := 9) (bt := 4) rfl (by kernel_rfl) (un_of rfl) ?_ (by kernel_rfl) rowLaid (fun xs hxs => labelCut_args xs hxs) hval hW
  intro ds hl
  have hl' : ds.length = 2 := by rw [hl, Try.params6]; rfl
  match ds, hl' with
  | [d0, d1], _ => exact ⟨rfl, rfl, rfl⟩

theorem labelCut_over : Rows.labelCutRow.holds Try.pinned (OpenSpec.ofChange Rows.labelCutSpec) :=
  OpenClaim.holds_of_wide 6 Try.f6 rfl rfl rfl rfl rfl rfl rfl ⟨rfl, rfl, rfl, rfl, rfl⟩ rfl rfl rfl rfl rfl (by kernel_rfl) Try.func6 (by kernel_rfl)
    (of_decide_eq_true (by kernel_rfl)) (by unfold Func.isWrapper; first | (rw [if_pos (by decide +kernel)]; kernel_rfl) | (rw [if_neg (by decide +kernel)]; exact ⟨rfl, rfl⟩))
    (fun os started H enc _ => labelCut_lifted os started H enc)

theorem labelCut_holds : Rows.LabelCutSaid := labelCut_over
#print axioms labelCut_holds
end Go.Proofs.Ytickejlolpoboaa
