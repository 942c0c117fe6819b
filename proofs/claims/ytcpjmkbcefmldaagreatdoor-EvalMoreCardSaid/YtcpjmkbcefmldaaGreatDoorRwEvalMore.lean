/- A part of the proof: RwEvalMore. -/
import Derived.Test.YtcpjmkbcefmldaaGreatDoorEqEvalMore
import Derived.Test.YtcpjmkbcefmldaaGreatDoorSh
import Derived.Test.YtcpjmkbcefmldaaGreatDoorCards
import Derived.Test.YtcpjmkbcefmldaaGreatDoorTie
import Derived.SevenTiedAt
import Derived.Lay
import Derived.LaidMore
import Derived.Test.YtcpjmkbcefmldaaGreatDoorRh
set_option linter.all false
/- The law EvalMore: for every input it answers true, and each argument reads behind the call as it read before. No condition. -/
namespace Go.Proofs.YtcpjmkbcefmldaaGreatDoor
open Go Go.ChangeShapes Go.WideShapes Go.RowKit Go.Proofs.YtcpjmkbcefmldaaGreatDoor.AM

set_option maxRecDepth 100000 in
theorem evalMore_args (xs : List AV) (h : argsOk Tryz.prog 9 Tryz.f5.params.toList xs) : Fun Tryz.prog 5 xs (.v (.bool true)) [] := by
  rw [show Tryz.f5.params.toList = [22, 30, 3, 3] from by rw [Tryz.params5]] at h
  obtain ⟨d0, y0, g0, rfl, h0⟩ := h
  obtain ⟨d1, y1, g1, rfl, h1⟩ := h0
  obtain ⟨d2, y2, g2, rfl, h2⟩ := h1
  obtain ⟨d3, y3, g3, rfl, h3⟩ := h2
  cases h3
  obtain ⟨x0, e0, b0⟩ := open_22 g0
  obtain ⟨x1, e1, b1⟩ := open_30 g1
  obtain ⟨x2, e2, b2⟩ := open_3 g2
  obtain ⟨x3, e3, b3⟩ := open_3 g3
  rw [e0, e1, e2, e3]
  exact law19_EvalMore_run (law19_EvalMore_eq x0 x1 x2 x3 b0 b1 b2 b3)

set_option maxRecDepth 100000 in
theorem evalMore_lifted (os : Os) (started : os.Started) (H : Type) (enc : TypeId × Value → H) :
    ReturnsInHanded {} Tryz.checked os 5 .any (fun w args => (Rows.evalMoreSpec.pre enc Tryz.prog Tryz.f5 [] false w args ∧ laidMetH Tryz.prog Rows.evalMoreRow.laid w) ∧ sizedMet enc Tryz.prog Tryz.f5 (OpenSpec.ofChange Rows.evalMoreSpec) false w args) (Rows.evalMoreSpec.post enc Tryz.prog Tryz.f5 false true false false) := by
  refine returnsInHanded_of_change_and (C := Tryz.checked) (X := fun w _ => laidMetH Tryz.prog Rows.evalMoreRow.laid w) (fun _ _ _ hh h => h.of_heap hh) rowOwn started (by kernel_rfl) Tryz.func5
    (ChangeSpec.witness_shaped (enc := enc) (C := Tryz.checked) (os := os) (X := fun w _ => laidMetH Tryz.prog Rows.evalMoreRow.laid w) false (World.laidAll Tryz.prog os Rows.evalMoreRow.laid) #[.slice none 0 0, .agg #[.string ByteArray.empty, .string ByteArray.empty, .slice none 0 0, .int .i64 0, .int .i64 0, .int .i64 0, .int .i64 0, .slice none 0 0], .int .i64 0, .int .i64 0] 8 (World.laidAll_os _ _ _) (World.shaped_of_ZipB (by kernel_rfl) (by kernel_rfl)) (by kernel_rfl) (by kernel_rfl) (by kernel_rfl)
      (by rw [MakeChecks.laidMetH_plain _ _ _ (by kernel_rfl)]; exact laidMet_laidAll _ (by kernel_rfl) (by kernel_rfl))) ?_
  intro W base args ds gs before hval hW _ _ hX _
  refine law_calls (n := 9) (bt := 4) rfl (by kernel_rfl) (un_of rfl) ?_ (by kernel_rfl) rowLaid (fun xs hxs => evalMore_args xs hxs) (gl_of (by rw [MakeChecks.laidMetH_plain _ _ _ (by kernel_rfl)] at hX; exact hX) (List.mem_of_getElem? (i := 3) rfl)) hval hW
  intro ds hl
  have hl' : ds.length = 4 := by rw [hl, Tryz.params5]; rfl
  match ds, hl' with
  | [d0, d1, d2, d3], _ => exact ⟨rfl, rfl, rfl⟩

theorem evalMore_over : Rows.evalMoreRow.holds Tryz.pinned (OpenSpec.ofChange Rows.evalMoreSpec) :=
  OpenClaim.holds_of_wide 5 Tryz.f5 rfl rfl rfl rfl rfl rfl rfl ⟨rfl, rfl, rfl, rfl, rfl⟩ rfl rfl rfl rfl rfl (by kernel_rfl) Tryz.func5 (by kernel_rfl)
    (of_decide_eq_true (by kernel_rfl)) (by unfold Func.isWrapper; first | (rw [if_pos (by decide +kernel)]; kernel_rfl) | (rw [if_neg (by decide +kernel)]; exact ⟨rfl, rfl⟩))
    (fun os started H enc _ => evalMore_lifted os started H enc)

theorem evalMore_card : Rows.EvalMoreCardSaid :=
  Claim7.holds_tied_plain_at .later [] [.data, .data, .data, .data] true (true, "c3258e8e96a386cced8f448faa50cf07cae054e4931149ba49866593b6cf54a0") false evalMore_over (fun _ h => by cases h) (by kernel_rfl) (fun _ h => by cases h) evalMore_row_tie rfl ⟨rfl, rfl⟩ (by kernel_rfl) rfl
    (fun f fn hf hfn => by
      obtain rfl : f = 5 := Option.some.inj ((show Tryz.prog.funcNamed "watchtower/watchtowerlaw19.EvalMore" = some 5 by kernel_rfl).symm.trans hf) |>.symm
      obtain rfl : fn = Tryz.f5 := (Option.some.inj (Tryz.func5.symm.trans hfn)).symm
      exact ⟨by kernel_rfl, fun j t ht => by
        rw [Tryz.params5] at ht
        have hm := Array.mem_of_getElem? ht
        have hm2 : t ∈ [22, 30, 3, 3] := by simpa using hm
        have hall : ([22, 30, 3, 3].all fun u => !Tryz.prog.wantsStandIn u) = true := by kernel_rfl
        exact (show Tryz.prog.wantsStandIn t = false by simpa using List.all_eq_true.1 hall t hm2)⟩)
    (by kernel_rfl)
#print axioms evalMore_card
end Go.Proofs.YtcpjmkbcefmldaaGreatDoor
