/- A part of the proof: RwEvalWrites. -/
import Derived.Test.YtcpjmkbcefmldaaGreatDoorEqEvalWrites
import Derived.Test.YtcpjmkbcefmldaaGreatDoorSh
import Derived.Test.YtcpjmkbcefmldaaGreatDoorCards
import Derived.Test.YtcpjmkbcefmldaaGreatDoorTie
import Derived.SevenTiedAt
import Derived.Lay
import Derived.LaidMore
import Derived.Test.YtcpjmkbcefmldaaGreatDoorRh
set_option linter.all false
/- The law EvalWrites: for every input it answers true, and each argument reads behind the call as it read before. No condition. -/
namespace Go.Proofs.YtcpjmkbcefmldaaGreatDoor
open Go Go.ChangeShapes Go.WideShapes Go.RowKit Go.Proofs.YtcpjmkbcefmldaaGreatDoor.AM

set_option maxRecDepth 100000 in
theorem evalWrites_args (xs : List AV) (h : argsOk Tryz.prog 9 Tryz.f7.params.toList xs) : Fun Tryz.prog 7 xs (.v (.bool true)) [] := by
  rw [show Tryz.f7.params.toList = [22, 71, 3] from by rw [Tryz.params7]] at h
  obtain ⟨d0, y0, g0, rfl, h0⟩ := h
  obtain ⟨d1, y1, g1, rfl, h1⟩ := h0
  obtain ⟨d2, y2, g2, rfl, h2⟩ := h1
  cases h2
  obtain ⟨x0, e0, b0⟩ := open_22 g0
  obtain ⟨x1, e1, b1⟩ := open_71 g1
  obtain ⟨x2, e2, b2⟩ := open_3 g2
  rw [e0, e1, e2]
  exact law19_EvalWrites_run (law19_EvalWrites_eq x0 x1 x2 b0 b1 b2)

set_option maxRecDepth 100000 in
theorem evalWrites_lifted (os : Os) (started : os.Started) (H : Type) (enc : TypeId × Value → H) :
    ReturnsInHanded {} Tryz.checked os 7 .any (fun w args => (Rows.evalWritesSpec.pre enc Tryz.prog Tryz.f7 [] false w args ∧ laidMetH Tryz.prog Rows.evalWritesRow.laid w) ∧ sizedMet enc Tryz.prog Tryz.f7 (OpenSpec.ofChange Rows.evalWritesSpec) false w args) (Rows.evalWritesSpec.post enc Tryz.prog Tryz.f7 false true false false) := by
  refine returnsInHanded_of_change_and (C := Tryz.checked) (X := fun w _ => laidMetH Tryz.prog Rows.evalWritesRow.laid w) (fun _ _ _ hh h => h.of_heap hh) rowOwn started (by kernel_rfl) Tryz.func7
    (ChangeSpec.witness_shaped (enc := enc) (C := Tryz.checked) (os := os) (X := fun w _ => laidMetH Tryz.prog Rows.evalWritesRow.laid w) false (World.laidAll Tryz.prog os Rows.evalWritesRow.laid) #[.slice none 0 0, .agg #[.slice none 0 0, .int .i64 0], .int .i64 0] 8 (World.laidAll_os _ _ _) (World.shaped_of_ZipB (by kernel_rfl) (by kernel_rfl)) (by kernel_rfl) (by kernel_rfl) (by kernel_rfl)
      (by rw [MakeChecks.laidMetH_plain _ _ _ (by kernel_rfl)]; exact laidMet_laidAll _ (by kernel_rfl) (by kernel_rfl))) ?_
  intro W base args ds gs before hval hW _ _ hX _
  refine law_calls (n := 9) (bt := 4) rfl (by kernel_rfl) (un_of rfl) ?_ (by kernel_rfl) rowLaid (fun xs hxs => evalWrites_args xs hxs) (gl_of (by rw [MakeChecks.laidMetH_plain _ _ _ (by kernel_rfl)] at hX; exact hX) (List.mem_of_getElem? (i := 3) rfl)) hval hW
  intro ds hl
  have hl' : ds.length = 3 := by rw [hl, Tryz.params7]; rfl
  match ds, hl' with
  | [d0, d1, d2], _ => exact ⟨rfl, rfl, rfl⟩

theorem evalWrites_over : Rows.evalWritesRow.holds Tryz.pinned (OpenSpec.ofChange Rows.evalWritesSpec) :=
  OpenClaim.holds_of_wide 7 Tryz.f7 rfl rfl rfl rfl rfl rfl rfl ⟨rfl, rfl, rfl, rfl, rfl⟩ rfl rfl rfl rfl rfl (by kernel_rfl) Tryz.func7 (by kernel_rfl)
    (of_decide_eq_true (by kernel_rfl)) (by unfold Func.isWrapper; first | (rw [if_pos (by decide +kernel)]; kernel_rfl) | (rw [if_neg (by decide +kernel)]; exact ⟨rfl, rfl⟩))
    (fun os started H enc _ => evalWrites_lifted os started H enc)

theorem evalWrites_card : Rows.EvalWritesCardSaid :=
  Claim7.holds_tied_plain_at .later [] [.data, .data, .data, .data] true (true, "c3258e8e96a386cced8f448faa50cf07cae054e4931149ba49866593b6cf54a0") false evalWrites_over (fun _ h => by cases h) (by kernel_rfl) (fun _ h => by cases h) evalWrites_row_tie rfl ⟨rfl, rfl⟩ (by kernel_rfl) rfl
    (fun f fn hf hfn => by
      obtain rfl : f = 7 := Option.some.inj ((show Tryz.prog.funcNamed "watchtower/watchtowerlaw19.EvalWrites" = some 7 by kernel_rfl).symm.trans hf) |>.symm
      obtain rfl : fn = Tryz.f7 := (Option.some.inj (Tryz.func7.symm.trans hfn)).symm
      exact ⟨by kernel_rfl, fun j t ht => by
        rw [Tryz.params7] at ht
        have hm := Array.mem_of_getElem? ht
        have hm2 : t ∈ [22, 71, 3] := by simpa using hm
        have hall : ([22, 71, 3].all fun u => !Tryz.prog.wantsStandIn u) = true := by kernel_rfl
        exact (show Tryz.prog.wantsStandIn t = false by simpa using List.all_eq_true.1 hall t hm2)⟩)
    (by kernel_rfl)
#print axioms evalWrites_card
end Go.Proofs.YtcpjmkbcefmldaaGreatDoor
