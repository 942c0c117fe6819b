/- A part of the proof: RwLabelWith. -/
import Derived.Test.YtickejlolpoboaaEqLabelWith
import Derived.Test.YtickejlolpoboaaSh
import Derived.Test.YtickejlolpoboaaRd
set_option linter.all false
/- The law LabelWith: for every input it answers true, and each argument reads behind the call as it read before. No condition. -/
namespace Go.Proofs.Ytickejlolpoboaa
open Go Go.ChangeShapes Go.WideShapes Go.RowKit Go.Proofs.Ytickejlolpoboaa.AM

theorem labelWith_args (xs : List AV) (h : argsOk Try.prog 9 Try.f9.params.toList xs) : Fun Try.prog 9 xs (.v (.bool true)) [] := by
  rw [show Try.f9.params.toList = [22, 9, 9, 9] from by rw [Try.params9]] at h
  obtain ⟨d0, y0, g0, rfl, h0⟩ := h
  obtain ⟨d1, y1, g1, rfl, h1⟩ := h0
  obtain ⟨d2, y2, g2, rfl, h2⟩ := h1
  obtain ⟨d3, y3, g3, rfl, h3⟩ := h2
  cases h3
  obtain ⟨x0, e0, b0⟩ := open_22 g0
  obtain ⟨x1, e1, b1⟩ := open_9 g1
  obtain ⟨x2, e2, b2⟩ := open_9 g2
  obtain ⟨x3, e3, b3⟩ := open_9 g3
  rw [e0, e1, e2, e3]
  exact law03_LabelWith_run (law03_LabelWith_eq x0 x1 x2 x3 b0 b1 b2 b3)

set_option maxRecDepth 100000 in
theorem labelWith_lifted (os : Os) (started : os.Started) (H : Type) (enc : TypeId × Value → H) :
    ReturnsInHanded {} Try.checked os 9 .any (Rows.labelWithSpec.pre6 enc Try.prog Try.f9 Rows.labelWithRow.domain false) (Rows.labelWithSpec.post enc Try.prog Try.f9 false true false false) := by
  refine returnsInHanded_of_change (C := Try.checked) rowOwn started (by kernel_rfl) Try.func9
    (ChangeSpec.witness6 (enc := enc) (C := Try.checked) false ⟨#[], #[.slice none 0 0, .string ByteArray.empty, .string ByteArray.empty, .string ByteArray.empty], []⟩ 8 (by kernel_rfl) (by kernel_rfl) (by kernel_rfl) (by kernel_rfl)) ?_
  intro W base args ds gs before hval hW hcnd _
  refine law_calls (n := 9) (bt := 4) rfl (by kernel_rfl) (un_of rfl) ?_ (by kernel_rfl) rowLaid (fun xs hxs => labelWith_args xs hxs) hval hW
  intro ds hl
  have hl' : ds.length = 4 := by rw [hl, Try.params9]; rfl
  match ds, hl' with
  | [d0, d1, d2, d3], _ => exact ⟨rfl, rfl, rfl⟩

theorem labelWith_over : Rows.labelWithRow.holds Try.pinned (OpenSpec.ofChange Rows.labelWithSpec) :=
  OpenClaim.holds_of_wide 9 Try.f9 rfl rfl rfl rfl rfl rfl rfl ⟨rfl, rfl, rfl, rfl, rfl⟩ rfl rfl rfl rfl rfl (by kernel_rfl) Try.func9 (by kernel_rfl)
    (of_decide_eq_true (by kernel_rfl)) (by unfold Func.isWrapper; first | (rw [if_pos (by decide +kernel)]; kernel_rfl) | (rw [if_neg (by decide +kernel)]; exact ⟨rfl, rfl⟩))
    (fun os started H enc _ => labelWith_lifted os started H enc)

theorem labelWith_holds : Rows.LabelWithSaid := labelWith_over
#print axioms labelWith_holds
end Go.Proofs.Ytickejlolpoboaa
