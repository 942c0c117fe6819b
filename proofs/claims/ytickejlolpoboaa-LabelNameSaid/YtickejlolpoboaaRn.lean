/- The law LabelName: for every input it answers true, and each argument reads behind the call as it read before. No condition. -/
import Derived.Test.YtickejlolpoboaaFn
import Derived.Test.YtickejlolpoboaaRw
set_option linter.all false
namespace Go.Proofs.Ytickejlolpoboaa
open Go Go.ChangeShapes Go.WideShapes Go.RowKit Go.Proofs.Ytickejlolpoboaa.AM

theorem labelName_args (xs : List AV) (h : argsOk Try.prog 9 Try.f7.params.toList xs) : Fun Try.prog 7 xs (.v (.bool true)) [] := by
  rw [show Try.f7.params.toList = [9] from by rw [Try.params7]] at h
  obtain ⟨d0, y0, g0, rfl, h0⟩ := h
  cases h0
  obtain ⟨x0, e0, _⟩ := open_str g0
  rw [e0]
  exact labelName_any x0

set_option maxRecDepth 100000 in
theorem labelName_lifted (os : Os) (started : os.Started) (H : Type) (enc : TypeId × Value → H) :
    ReturnsInHanded {} Try.checked os 7 .any (Rows.labelNameSpec.pre6 enc Try.prog Try.f7 Rows.labelNameRow.domain false) (Rows.labelNameSpec.post enc Try.prog Try.f7 false true false false) := by
  refine returnsInHanded_of_change (C := Try.checked) rowOwn started (by kernel_rfl) Try.func7
    (ChangeSpec.witness6 (enc := enc) (C := Try.checked) false ⟨#[], #[.string ByteArray.empty], []⟩ 8 (by kernel_rfl) (by kernel_rfl) (by kernel_rfl) (by kernel_rfl)) ?_
  intro W base args ds gs before hval hW hcnd _
  refine law_calls (n := 9) (bt := 4) rfl (by kernel_rfl) (ti_spec ti4).1 ?_ (by kernel_rfl) rowLaid (fun xs hxs => labelName_args xs hxs) hval hW
  intro ds hl
  have hl' : ds.length = 1 := by rw [hl, Try.params7]; rfl
  match ds, hl' with
  | [d0], _ => exact ⟨rfl, rfl, rfl⟩

theorem labelName_over : Rows.labelNameRow.holds Try.pinned (OpenSpec.ofChange Rows.labelNameSpec) :=
  OpenClaim.holds_of_wide 7 Try.f7 rfl rfl rfl rfl rfl rfl rfl ⟨rfl, rfl, rfl, rfl, rfl⟩ rfl rfl rfl rfl rfl (by kernel_rfl) Try.func7 (by kernel_rfl)
    (of_decide_eq_true (by kernel_rfl)) (by unfold Func.isWrapper; first | (rw [if_pos (by decide +kernel)]; kernel_rfl) | (rw [if_neg (by decide +kernel)]; exact ⟨rfl, rfl⟩))
    (fun os started H enc _ => labelName_lifted os started H enc)

theorem labelName_holds : Rows.LabelNameSaid := labelName_over
#print axioms labelName_holds
end Go.Proofs.Ytickejlolpoboaa
