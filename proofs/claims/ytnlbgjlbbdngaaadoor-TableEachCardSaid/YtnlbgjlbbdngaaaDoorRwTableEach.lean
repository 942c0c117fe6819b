/- A part of the proof: RwTableEach. -/
import Derived.Test.YtnlbgjlbbdngaaaDoorEqTableEach
import Derived.Test.YtnlbgjlbbdngaaaDoorSh
import Derived.Test.YtnlbgjlbbdngaaaDoorCards
import Derived.Test.YtnlbgjlbbdngaaaDoorTie
import Derived.SevenTiedAt
import Derived.Lay
import Derived.LaidMore
import Derived.Test.YtnlbgjlbbdngaaaDoorRd
set_option linter.all false
/- The law TableEach: for every input it answers true, and each argument reads behind the call as it read before. No condition. -/
namespace Go.Proofs.YtnlbgjlbbdngaaaDoor
open Go Go.ChangeShapes Go.WideShapes Go.RowKit Go.Proofs.YtnlbgjlbbdngaaaDoor.AM

set_option maxRecDepth 100000 in
theorem tableEach_args (xs : List AV) (h : argsOk Tryd.prog 9 Tryd.f3.params.toList xs) : Fun Tryd.prog 3 xs (.v (.bool true)) [] := by
  rw [show Tryd.f3.params.toList = [24, 25, 26, 3, 3, 3] from by rw [Tryd.params3]] at h
  obtain ⟨d0, y0, g0, rfl, h0⟩ := h
  obtain ⟨d1, y1, g1, rfl, h1⟩ := h0
  obtain ⟨d2, y2, g2, rfl, h2⟩ := h1
  obtain ⟨d3, y3, g3, rfl, h3⟩ := h2
  obtain ⟨d4, y4, g4, rfl, h4⟩ := h3
  obtain ⟨d5, y5, g5, rfl, h5⟩ := h4
  cases h5
  obtain ⟨x0, e0, b0⟩ := open_24 g0
  obtain ⟨x1, e1, b1⟩ := open_25 g1
  obtain ⟨x2, e2, b2⟩ := open_26 g2
  obtain ⟨x3, e3, b3⟩ := open_3 g3
  obtain ⟨x4, e4, b4⟩ := open_3 g4
  obtain ⟨x5, e5, b5⟩ := open_3 g5
  rw [e0, e1, e2, e3, e4, e5]
  exact law17_TableEach_run (law17_TableEach_eq x0 x1 x2 x3 x4 x5 b0 b1 b2 b3 b4 b5)

set_option maxRecDepth 100000 in
theorem tableEach_lifted (os : Os) (started : os.Started) (H : Type) (enc : TypeId × Value → H) :
    ReturnsInHanded {} Tryd.checked os 3 .any (fun w args => (Rows.tableEachSpec.pre enc Tryd.prog Tryd.f3 [] false w args ∧ laidMetH Tryd.prog Rows.tableEachRow.laid w) ∧ sizedMet enc Tryd.prog Tryd.f3 (OpenSpec.ofChange Rows.tableEachSpec) false w args) (Rows.tableEachSpec.post enc Tryd.prog Tryd.f3 false true false false) := by
  refine returnsInHanded_of_change_and (C := Tryd.checked) (X := fun w _ => laidMetH Tryd.prog Rows.tableEachRow.laid w) (fun _ _ _ hh h => h.of_heap hh) rowOwn started (by kernel_rfl) Tryd.func3
    (ChangeSpec.witness_shaped (enc := enc) (C := Tryd.checked) (os := os) (X := fun w _ => laidMetH Tryd.prog Rows.tableEachRow.laid w) false (World.laidAll Tryd.prog os Rows.tableEachRow.laid) #[.agg #[.slice none 0 0, .int .i64 0], .slice none 0 0, .slice none 0 0, .int .i64 0, .int .i64 0, .int .i64 0] 8 (World.laidAll_os _ _ _) (World.shaped_of_ZipB (by kernel_rfl) (by kernel_rfl)) (by kernel_rfl) (by kernel_rfl) (by kernel_rfl)
      (by rw [MakeChecks.laidMetH_plain _ _ _ (by kernel_rfl)]; exact laidMet_laidAll _ (by kernel_rfl) (by kernel_rfl))) ?_
  intro W base args ds gs before hval hW _ _ _ _
  refine law_calls (n := 9) (bt := 4) rfl (by kernel_rfl) (un_of rfl) ?_ (by kernel_rfl) rowLaid (fun xs hxs => tableEach_args xs hxs) hval hW
  intro ds hl
  have hl' : ds.length = 6 := by rw [hl, Tryd.params3]; rfl
  match ds, hl' with
  | [d0, d1, d2, d3, d4, d5], _ => exact ⟨rfl, rfl, rfl⟩

theorem tableEach_over : Rows.tableEachRow.holds Tryd.pinned (OpenSpec.ofChange Rows.tableEachSpec) :=
  OpenClaim.holds_of_wide 3 Tryd.f3 rfl rfl rfl rfl rfl rfl rfl ⟨rfl, rfl, rfl, rfl, rfl⟩ rfl rfl rfl rfl rfl (by kernel_rfl) Tryd.func3 (by kernel_rfl)
    (of_decide_eq_true (by kernel_rfl)) (by unfold Func.isWrapper; first | (rw [if_pos (by decide +kernel)]; kernel_rfl) | (rw [if_neg (by decide +kernel)]; exact ⟨rfl, rfl⟩))
    (fun os started H enc _ => tableEach_lifted os started H enc)

theorem tableEach_card : Rows.TableEachCardSaid :=
  Claim7.holds_tied_plain_at .later [] [.data, .data, .data] true (true, "d063f83164695978833d29949be56a204859d578a9fa0097c8dfaf5ff0216d52") false tableEach_over (fun _ h => by cases h) (by kernel_rfl) (fun _ h => by cases h) tableEach_row_tie rfl ⟨rfl, rfl⟩ (by kernel_rfl) rfl
    (fun f fn hf hfn => by
      obtain rfl : f = 3 := Option.some.inj ((show Tryd.prog.funcNamed "watchtower/watchtowerlaw17.TableEach" = some 3 by kernel_rfl).symm.trans hf) |>.symm
      obtain rfl : fn = Tryd.f3 := (Option.some.inj (Tryd.func3.symm.trans hfn)).symm
      exact ⟨by kernel_rfl, fun j t ht => by
        rw [Tryd.params3] at ht
        have hm := Array.mem_of_getElem? ht
        have hm2 : t ∈ [24, 25, 26, 3, 3, 3] := by simpa using hm
        have hall : ([24, 25, 26, 3, 3, 3].all fun u => !Tryd.prog.wantsStandIn u) = true := by kernel_rfl
        exact (show Tryd.prog.wantsStandIn t = false by simpa using List.all_eq_true.1 hall t hm2)⟩)
    (by kernel_rfl)
#print axioms tableEach_card
end Go.Proofs.YtnlbgjlbbdngaaaDoor
