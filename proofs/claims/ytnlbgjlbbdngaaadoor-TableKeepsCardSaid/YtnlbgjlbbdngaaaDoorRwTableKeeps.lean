/- A part of the proof: RwTableKeeps. -/
import Derived.Test.YtnlbgjlbbdngaaaDoorEqTableKeeps
import Derived.Test.YtnlbgjlbbdngaaaDoorSh
import Derived.Test.YtnlbgjlbbdngaaaDoorCards
import Derived.Test.YtnlbgjlbbdngaaaDoorTie
import Derived.SevenTiedAt
import Derived.Lay
import Derived.LaidMore
import Derived.Test.YtnlbgjlbbdngaaaDoorRd
set_option linter.all false
/- The law TableKeeps: for every input it answers true, and each argument reads behind the call as it read before. No condition. -/
namespace Go.Proofs.YtnlbgjlbbdngaaaDoor
open Go Go.ChangeShapes Go.WideShapes Go.RowKit Go.Proofs.YtnlbgjlbbdngaaaDoor.AM

set_option maxRecDepth 100000 in
theorem tableKeeps_args (xs : List AV) (h : argsOk Tryd.prog 9 Tryd.f4.params.toList xs) : Fun Tryd.prog 4 xs (.v (.bool true)) [] := by
  rw [show Tryd.f4.params.toList = [24, 25, 3, 3, 3] from by rw [Tryd.params4]] at h
  obtain ⟨d0, y0, g0, rfl, h0⟩ := h
  obtain ⟨d1, y1, g1, rfl, h1⟩ := h0
  obtain ⟨d2, y2, g2, rfl, h2⟩ := h1
  obtain ⟨d3, y3, g3, rfl, h3⟩ := h2
  obtain ⟨d4, y4, g4, rfl, h4⟩ := h3
  cases h4
  obtain ⟨x0, e0, b0⟩ := open_24 g0
  obtain ⟨x1, e1, b1⟩ := open_25 g1
  obtain ⟨x2, e2, b2⟩ := open_3 g2
  obtain ⟨x3, e3, b3⟩ := open_3 g3
  obtain ⟨x4, e4, b4⟩ := open_3 g4
  rw [e0, e1, e2, e3, e4]
  exact law17_TableKeeps_run (law17_TableKeeps_eq x0 x1 x2 x3 x4 b0 b1 b2 b3 b4)

set_option maxRecDepth 100000 in
theorem tableKeeps_lifted (os : Os) (started : os.Started) (H : Type) (enc : TypeId × Value → H) :
    ReturnsInHanded {} Tryd.checked os 4 .any (fun w args => (Rows.tableKeepsSpec.pre enc Tryd.prog Tryd.f4 [] false w args ∧ laidMetH Tryd.prog Rows.tableKeepsRow.laid w) ∧ sizedMet enc Tryd.prog Tryd.f4 (OpenSpec.ofChange Rows.tableKeepsSpec) false w args) (Rows.tableKeepsSpec.post enc Tryd.prog Tryd.f4 false true false false) := by
  refine returnsInHanded_of_change_and (C := Tryd.checked) (X := fun w _ => laidMetH Tryd.prog Rows.tableKeepsRow.laid w) (fun _ _ _ hh h => h.of_heap hh) rowOwn started (by kernel_rfl) Tryd.func4
    (ChangeSpec.witness_shaped (enc := enc) (C := Tryd.checked) (os := os) (X := fun w _ => laidMetH Tryd.prog Rows.tableKeepsRow.laid w) false (World.laidAll Tryd.prog os Rows.tableKeepsRow.laid) #[.agg #[.slice none 0 0, .int .i64 0], .slice none 0 0, .int .i64 0, .int .i64 0, .int .i64 0] 8 (World.laidAll_os _ _ _) (World.shaped_of_ZipB (by kernel_rfl) (by kernel_rfl)) (by kernel_rfl) (by kernel_rfl) (by kernel_rfl)
      (by rw [MakeChecks.laidMetH_plain _ _ _ (by kernel_rfl)]; exact laidMet_laidAll _ (by kernel_rfl) (by kernel_rfl))) ?_
  intro W base args ds gs before hval hW _ _ _ _
  refine law_calls (n := 9) (bt := 4) rfl (by kernel_rfl) (un_of rfl) ?_ (by kernel_rfl) rowLaid (fun xs hxs => tableKeeps_args xs hxs) hval hW
  intro ds hl
  have hl' : ds.length = 5 := by rw [hl, Tryd.params4]; rfl
  match ds, hl' with
  | [d0, d1, d2, d3, d4], _ => exact ⟨rfl, rfl, rfl⟩

theorem tableKeeps_over : Rows.tableKeepsRow.holds Tryd.pinned (OpenSpec.ofChange Rows.tableKeepsSpec) :=
  OpenClaim.holds_of_wide 4 Tryd.f4 rfl rfl rfl rfl rfl rfl rfl ⟨rfl, rfl, rfl, rfl, rfl⟩ rfl rfl rfl rfl rfl (by kernel_rfl) Tryd.func4 (by kernel_rfl)
    (of_decide_eq_true (by kernel_rfl)) (by unfold Func.isWrapper; first | (rw [if_pos (by decide +kernel)]; kernel_rfl) | (rw [if_neg (by decide +kernel)]; exact ⟨rfl, rfl⟩))
    (fun os started H enc _ => tableKeeps_lifted os started H enc)

theorem tableKeeps_card : Rows.TableKeepsCardSaid :=
  Claim7.holds_tied_plain_at .later [] [.data, .data, .data] true (true, "d063f83164695978833d29949be56a204859d578a9fa0097c8dfaf5ff0216d52") false tableKeeps_over (fun _ h => by cases h) (by kernel_rfl) (fun _ h => by cases h) tableKeeps_row_tie rfl ⟨rfl, rfl⟩ (by kernel_rfl) rfl
    (fun f fn hf hfn => by
      obtain rfl : f = 4 := Option.some.inj ((show Tryd.prog.funcNamed "watchtower/watchtowerlaw17.TableKeeps" = some 4 by kernel_rfl).symm.trans hf) |>.symm
      obtain rfl : fn = Tryd.f4 := (Option.some.inj (Tryd.func4.symm.trans hfn)).symm
      exact ⟨by kernel_rfl, fun j t ht => by
        rw [Tryd.params4] at ht
        have hm := Array.mem_of_getElem? ht
        have hm2 : t ∈ [24, 25, 3, 3, 3] := by simpa using hm
        have hall : ([24, 25, 3, 3, 3].all fun u => !Tryd.prog.wantsStandIn u) = true := by kernel_rfl
        exact (show Tryd.prog.wantsStandIn t = false by simpa using List.all_eq_true.1 hall t hm2)⟩)
    (by kernel_rfl)
#print axioms tableKeeps_card
end Go.Proofs.YtnlbgjlbbdngaaaDoor
