/- A part of the proof: RwLabelIs. -/
import Derived.Test.YtickejlolpoboaaEqLabelIs
import Derived.Test.YtickejlolpoboaaSh
import Derived.Test.YtickejlolpoboaaRd
set_option linter.all false
/- The law LabelIs: for every input it answers true, and each argument reads behind the call as it read before. No condition. -/
namespace Go.Proofs.Ytickejlolpoboaa
open Go Go.ChangeShapes Go.WideShapes Go.RowKit Go.Proofs.Ytickejlolpoboaa.AM

theorem labelIs_args (xs : List AV) (h : argsOk Try.prog 9 Try.f8.params.toList xs) : Fun Try.prog 8 xs (.v (.bool true)) [] := by
  rw [show Try.f8.params.toList = [22, 22, 9, 9] from by rw [Try.params8]] at h
  obtain ⟨d0, y0, g0, rfl, h0⟩ := h
  obtain ⟨d1, y1, g1, rfl, h1⟩ := h0
  obtain ⟨d2, y2, g2, rfl, h2⟩ := h1
  obtain ⟨d3, y3, g3, rfl, h3⟩ := h2
  cases h3
  obtain ⟨x0, e0, b0⟩ := open_22 g0
  obtain ⟨x1, e1, b1⟩ := open_22 g1
  obtain ⟨x2, e2, b2⟩ := open_9 g2
  obtain ⟨x3, e3, b3⟩ := open_9 g3
  rw [e0, e1, e2, e3]
  exact law03_LabelIs_run (law03_LabelIs_eq x0 x1 x2 x3 b0 b1 b2 b3)

set_option maxRecDepth 100000 in
theorem labelIs_lifted (os : Os) (started : os.Started) (H : Type) (enc : TypeId × Value → H) :
    ReturnsInHanded {} Try.checked os 8 .any (Rows.labelIsSpec.pre6 enc Try.prog Try.f8 Rows.labelIsRow.domain false) (Rows.labelIsSpec.post enc Try.prog Try.f8 false true false false) := by
  refine returnsInHanded_of_change (C := Try.checked) rowOwn started (by kernel_rfl) Try.func8
    (ChangeSpec.witness6 (enc := enc) (C := Try.checked) false ⟨#[], #[.slice none 0 0, .slice none 0 0, .string ByteArray.empty, .string ByteArray.empty], []⟩ 8 (by kernel_rfl) (by kernel_rfl) (by kernel_rfl) (by kernel_rfl)) ?_
  intro W base args ds gs before hval hW hcnd _
  refine law_calls (n := 9) (bt := 4) rfl (by kernel_rfl) (un_of rfl) ?_ (by kernel_rfl) rowLaid (fun xs hxs => labelIs_args xs hxs) hval hW
  intro ds hl
  have hl' : ds.length = 4 := by rw [hl, Try.params8]; rfl
  match ds, hl' with
  | [d0, d1, d2, d3], _ => exact ⟨rfl, rfl, rfl⟩

theorem labelIs_over : Rows.labelIsRow.holds Try.pinned (OpenSpec.ofChange Rows.labelIsSpec) :=
  OpenClaim.holds_of_wide 8 Try.f8 rfl rfl rfl rfl rfl rfl rfl ⟨rfl, rfl, rfl, rfl, rfl⟩ rfl rfl rfl rfl rfl (by kernel_rfl) Try.func8 (by kernel_rfl)
    (of_decide_eq_true (by kernel_rfl)) (by unfold Func.isWrapper; first | (rw [if_pos (by decide +kernel)]; kernel_rfl) | (rw [if_neg (by decide +kernel)]; exact ⟨rfl, rfl⟩))
    (fun os started H enc _ => labelIs_lifted os started H enc)

theorem labelIs_holds : Rows.LabelIsSaid := labelIs_over
#print axioms labelIs_holds
end Go.Proofs.Ytickejlolpoboaa
