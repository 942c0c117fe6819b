/- The law LabelOrder: for every input it answers true, and each argument reads behind the call as it read before. No condition. -/
import Derived.Test.YtickejlolpoboaaFo
import Derived.Test.YtickejlolpoboaaRw
set_option linter.all false
namespace Go.Proofs.Ytickejlolpoboaa
open Go Go.ChangeShapes Go.WideShapes Go.RowKit Go.Proofs.Ytickejlolpoboaa.AM

theorem labelOrder_args (xs : List AV) (h : argsOk Try.prog 9 Try.f4.params.toList xs) : Fun Try.prog 4 xs (.v (.bool true)) [] := by
  rw [show Try.f4.params.toList = [22, 22, 22] from by rw [Try.params4]] at h
  obtain ⟨d0, y0, g0, rfl, h0⟩ := h
  obtain ⟨d1, y1, g1, rfl, h1⟩ := h0
  obtain ⟨d2, y2, g2, rfl, h2⟩ := h1
  cases h2
  obtain ⟨x0, e0⟩ := open_pairs g0
  obtain ⟨x1, e1⟩ := open_pairs g1
  obtain ⟨x2, e2⟩ := open_pairs g2
  rw [e0, e1, e2]
  exact labelOrder_any x0 x1 x2

set_option maxRecDepth 100000 in
theorem labelOrder_lifted (os : Os) (started : os.Started) (H : Type) (enc : TypeId × Value → H) :
    ReturnsInHanded {} Try.checked os 4 .any (Rows.labelOrderSpec.pre6 enc Try.prog Try.f4 Rows.labelOrderRow.domain false) (Rows.labelOrderSpec.post enc Try.prog Try.f4 false true false false) := by
  refine returnsInHanded_of_change (C := Try.checked) rowOwn started (by kernel_rfl) Try.func4
    (ChangeSpec.witness6 (enc := enc) (C := Try.checked) false ⟨#[], #[.slice none 0 0, .slice none 0 0, .slice none 0 0], []⟩ 8 (by kernel_rfl) (by kernel_rfl) (by kernel_rfl) (by kernel_rfl)) ?_
  intro W base args ds gs before hval hW hcnd _
  refine law_calls (n := 9) (bt := 4) rfl (by kernel_rfl) (ti_spec ti4).1 ?_ (by kernel_rfl) rowLaid (fun xs hxs => labelOrder_args xs hxs) hval hW
  intro ds hl
  have hl' : ds.length = 3 := by rw [hl, Try.params4]; rfl
  match ds, hl' with
  | [d0, d1, d2], _ => exact ⟨rfl, rfl, rfl⟩

theorem labelOrder_over : Rows.labelOrderRow.holds Try.pinned (OpenSpec.ofChange Rows.labelOrderSpec) :=
  OpenClaim.holds_of_wide 4 Try.f4 rfl rfl rfl rfl rfl rfl rfl ⟨rfl, rfl, rfl, rfl, rfl⟩ rfl rfl rfl rfl rfl (by kernel_rfl) Try.func4 (by kernel_rfl)
    (of_decide_eq_true (by kernel_rfl)) (by unfold Func.isWrapper; first | (rw [if_pos (by decide +kernel)]; kernel_rfl) | (rw [if_neg (by decide +kernel)]; exact ⟨rfl, rfl⟩))
    (fun os started H enc _ => labelOrder_lifted os started H enc)

theorem labelOrder_holds : Rows.LabelOrderSaid := labelOrder_over
#print axioms labelOrder_holds
end Go.Proofs.Ytickejlolpoboaa
