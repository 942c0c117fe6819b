/- A part of the proof: RwEvalRules. -/
import Derived.Test.YtcpjmkbcefmldaaGreatDoorEqEvalRules
import Derived.Test.YtcpjmkbcefmldaaGreatDoorSh
import Derived.Test.YtcpjmkbcefmldaaGreatDoorCards
import Derived.Test.YtcpjmkbcefmldaaGreatDoorTie
import Derived.SevenTiedAt
import Derived.Lay
import Derived.LaidMore
import Derived.Test.YtcpjmkbcefmldaaGreatDoorRh
set_option linter.all false
/- The law EvalRules: for every input it answers true, and each argument reads behind the call as it read before. No condition. -/
namespace Go.Proofs.YtcpjmkbcefmldaaGreatDoor
open Go Go.ChangeShapes Go.WideShapes Go.RowKit Go.Proofs.YtcpjmkbcefmldaaGreatDoor.AM

set_option maxRecDepth 100000 in
theorem evalRules_args (xs : List AV) (h : argsOk Tryz.prog 9 Tryz.f4.params.toList xs) : Fun Tryz.prog 4 xs (.v (.bool true)) [] := by
  rw [show Tryz.f4.params.toList = [22, 56, 57, 3, 3] from by rw [Tryz.params4]] at h
  obtain ⟨d0, y0, g0, rfl, h0⟩ := h
  obtain ⟨d1, y1, g1, rfl, h1⟩ := h0
  obtain ⟨d2, y2, g2, rfl, h2⟩ := h1
  obtain ⟨d3, y3, g3, rfl, h3⟩ := h2
  obtain ⟨d4, y4, g4, rfl, h4⟩ := h3
  cases h4
  obtain ⟨x0, e0, b0⟩ := open_22 g0
  obtain ⟨x1, e1, b1⟩ := open_56 g1
  obtain ⟨x2, e2, b2⟩ := open_57 g2
  obtain ⟨x3, e3, b3⟩ := open_3 g3
  obtain ⟨x4, e4, b4⟩ := open_3 g4
  rw [e0, e1, e2, e3, e4]
  exact law19_EvalRules_run (law19_EvalRules_eq x0 x1 x2 x3 x4 b0 b1 b2 b3 b4)

set_option maxRecDepth 100000 in
theorem evalRules_lifted (os : Os) (started : os.Started) (H : Type) (enc : TypeId × Value → H) :
    ReturnsInHanded {} Tryz.checked os 4 .any (fun w args => (Rows.evalRulesSpec.pre enc Tryz.prog Tryz.f4 [] false w args ∧ laidMetH Tryz.prog Rows.evalRulesRow.laid w) ∧ sizedMet enc Tryz.prog Tryz.f4 (OpenSpec.ofChange Rows.evalRulesSpec) false w args) (Rows.evalRulesSpec.post enc Tryz.prog Tryz.f4 false true false false) := by
  refine returnsInHanded_of_change_and (C := Tryz.checked) (X := fun w _ => laidMetH Tryz.prog Rows.evalRulesRow.laid w) (fun _ _ _ hh h => h.of_heap hh) rowOwn started (by kernel_rfl) Tryz.func4
    (ChangeSpec.witness_shaped (enc := enc) (C := Tryz.checked) (os := os) (X := fun w _ => laidMetH Tryz.prog Rows.evalRulesRow.laid w) false (World.laidAll Tryz.prog os Rows.evalRulesRow.laid) #[.slice none 0 0, .agg #[.string ByteArray.empty, .int .i64 0, .int .i64 0, .slice none 0 0], .slice none 0 0, .int .i64 0, .int .i64 0] 8 (World.laidAll_os _ _ _) (World.shaped_of_ZipB (by kernel_rfl) (by kernel_rfl)) (by kernel_rfl) (by kernel_rfl) (by kernel_rfl)
      (by rw [MakeChecks.laidMetH_plain _ _ _ (by kernel_rfl)]; exact laidMet_laidAll _ (by kernel_rfl) (by kernel_rfl))) ?_
  intro W base args ds gs before hval hW _ _ hX _
  refine law_calls (n := 9) (bt := 4) rfl (by kernel_rfl) (un_of rfl) ?_ (by kernel_rfl) rowLaid (fun xs hxs => evalRules_args xs hxs) (gl_of (by rw [MakeChecks.laidMetH_plain _ _ _ (by kernel_rfl)] at hX; exact hX) (List.mem_of_getElem? (i := 3) rfl)) hval hW
  intro ds hl
  have hl' : ds.length = 5 := by rw [hl, Tryz.params4]; rfl
  match ds, hl' with
  | [d0, d1, d2, d3, d4], _ => exact ⟨rfl, rfl, rfl⟩

theorem evalRules_over : Rows.evalRulesRow.holds Tryz.pinned (OpenSpec.ofChange Rows.evalRulesSpec) :=
  OpenClaim.holds_of_wide 4 Tryz.f4 rfl rfl rfl rfl rfl rfl rfl ⟨rfl, rfl, rfl, rfl, rfl⟩ rfl rfl rfl rfl rfl (by kernel_rfl) Tryz.func4 (by kernel_rfl)
    (of_decide_eq_true (by kernel_rfl)) (by unfold Func.isWrapper; first | (rw [if_pos (by decide +kernel)]; kernel_rfl) | (rw [if_neg (by decide +kernel)]; exact ⟨rfl, rfl⟩))
    (fun os started H enc _ => evalRules_lifted os started H enc)

theorem evalRules_card : Rows.EvalRulesCardSaid :=
  Claim7.holds_tied_plain_at .later [] [.data, .data, .data, .data] true (true, "c3258e8e96a386cced8f448faa50cf07cae054e4931149ba49866593b6cf54a0") false evalRules_over (fun _ h => by cases h) (by kernel_rfl) (fun _ h => by cases h) evalRules_row_tie rfl ⟨rfl, rfl⟩ (by kernel_rfl) rfl
    (fun f fn hf hfn => by
      obtain rfl : f = 4 := Option.some.inj ((show Tryz.prog.funcNamed "watchtower/watchtowerlaw19.EvalRules" = some 4 by kernel_rfl).symm.trans hf) |>.symm
      obtain rfl : fn = Tryz.f4 := (Option.some.inj (Tryz.func4.symm.trans hfn)).symm
      exact ⟨by kernel_rfl, fun j t ht => by
        rw [Tryz.params4] at ht
        have hm := Array.mem_of_getElem? ht
        have hm2 : t ∈ [22, 56, 57, 3, 3] := by simpa using hm
        have hall : ([22, 56, 57, 3, 3].all fun u => !Tryz.prog.wantsStandIn u) = true := by kernel_rfl
        exact (show Tryz.prog.wantsStandIn t = false by simpa using List.all_eq_true.1 hall t hm2)⟩)
    (by kernel_rfl)
#print axioms evalRules_card
end Go.Proofs.YtcpjmkbcefmldaaGreatDoor
