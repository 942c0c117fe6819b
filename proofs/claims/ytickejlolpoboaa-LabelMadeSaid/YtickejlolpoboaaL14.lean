/- L14: a part of the proof. -/
import Derived.Test.YtickejlolpoboaaL13
import Derived.Test.YtickejlolpoboaaAm25
import Derived.WalkKit
import Derived.JoinedOf
import Derived.Test.YtickejlolpoboaaRows
set_option linter.all false
namespace Go.Proofs.Ytickejlolpoboaa
open Go Go.ChangeShapes Go.WideShapes Go.RowKit Go.Proofs.Ytickejlolpoboaa.AM

theorem own : ownKnob Try.prog.godebug = none := by kernel_rfl
theorem laid : laidOutB Try.prog = true := by kernel_rfl

theorem open_pair {r : List D} (h : shD Try.prog 8 29 r) : ∃ p : Pr, r = encP p := by
  obtain ⟨a, b, rfl, ha, c, d, rfl, hc, rfl⟩ := shD_st (ti_spec ti29).1 h
  obtain ⟨s, rfl, _⟩ := shD_str (ti_spec ti9).1 ha
  obtain ⟨s2, rfl, _⟩ := shD_str (ti_spec ti9).1 hc
  exact ⟨(s, s2), rfl⟩
theorem open_pairs {ds : List D} (h : shD Try.prog 9 22 ds) : ∃ l : List Pr, ds = [.sl (encPs l)] := by
  obtain ⟨rows, rfl, _, hr⟩ := shD_sl (ti_spec ti22).1 h
  obtain ⟨l, rfl⟩ := rows_enc (fun r hr => open_pair hr) hr
  exact ⟨l, rfl⟩
theorem labelMade_args (xs : List AV) (h : argsOk Try.prog 9 Try.f3.params.toList xs) : ∃ l : List Pr, xs = [.sl (encPs l) .none] := by
  rw [show Try.f3.params.toList = [22] from by rw [Try.params3]] at h
  obtain ⟨ds, xs', h1, rfl, rfl⟩ := h
  obtain ⟨l, rfl⟩ := open_pairs h1
  exact ⟨l, by simp [argAV, (ti_spec ti22).1, AV.ofD]⟩

set_option maxRecDepth 100000 in
theorem lifted (os : Os) (started : os.Started) (H : Type) (enc : TypeId × Value → H) :
    ReturnsInHanded {} Try.checked os 3 .any (Rows.labelMadeSpec.pre6 enc Try.prog Try.f3 Rows.labelMadeRow.domain false) (Rows.labelMadeSpec.post enc Try.prog Try.f3 false true false false) := by
  refine returnsInHanded_of_change (C := Try.checked) own started (by kernel_rfl) Try.func3
    (ChangeSpec.witness6 (enc := enc) (C := Try.checked) false ⟨#[], #[.slice none 0 0], []⟩ 8 (by kernel_rfl) (by kernel_rfl) (by kernel_rfl) (by kernel_rfl)) ?_
  intro W base args ds gs before hval hW hcnd _
  refine law_calls (n := 9) (bt := 4) rfl (by kernel_rfl) (ti_spec ti4).1 ?_ (by kernel_rfl) laid ?_ hval hW
  · intro ds hl
    have hl' : ds.length = 1 := by rw [hl, Try.params3]; rfl
    match ds, hl' with
    | [d], _ => exact ⟨rfl, rfl, rfl⟩
  · intro xs hxs
    obtain ⟨l, rfl⟩ := labelMade_args xs hxs
    exact labelMade_any l

theorem over : Rows.labelMadeRow.holds Try.pinned (OpenSpec.ofChange Rows.labelMadeSpec) :=
  OpenClaim.holds_of_wide 3 Try.f3 rfl rfl rfl rfl rfl rfl rfl ⟨rfl, rfl, rfl, rfl, rfl⟩ rfl rfl rfl rfl rfl (by kernel_rfl) Try.func3 (by kernel_rfl)
    (of_decide_eq_true (by kernel_rfl)) (by unfold Func.isWrapper; first | (rw [if_pos (by decide +kernel)]; kernel_rfl) | (rw [if_neg (by decide +kernel)]; exact ⟨rfl, rfl⟩))
    (fun os started H enc _ => lifted os started H enc)

theorem labelMade_holds : Rows.LabelMadeSaid := over
#print axioms labelMade_holds
end Go.Proofs.Ytickejlolpoboaa
