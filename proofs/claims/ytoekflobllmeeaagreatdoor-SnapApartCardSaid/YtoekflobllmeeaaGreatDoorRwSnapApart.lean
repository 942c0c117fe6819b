/- A part of the proof: RwSnapApart. -/
import Derived.Test.YtoekflobllmeeaaGreatDoorEqSnapApart
import Derived.Test.YtoekflobllmeeaaGreatDoorSh
import Derived.Test.YtoekflobllmeeaaGreatDoorCards
import Derived.Test.YtoekflobllmeeaaGreatDoorTie
import Derived.SevenTiedAt
import Derived.Lay
import Derived.LaidMore
import Derived.Test.YtoekflobllmeeaaGreatDoorRi
set_option linter.all false
/- The law SnapApart: for every input it answers true, and each argument reads behind the call as it read before. No condition. -/

namespace Go.Proofs.YtoekflobllmeeaaGreatDoor
open Go Go.ChangeShapes Go.WideShapes Go.RowKit Go.Proofs.YtoekflobllmeeaaGreatDoor.AM

set_option maxRecDepth 100000 in
theorem snapApart_args (xs : List AV) (h : argsOk Tryz.prog 9 Tryz.f6.params.toList xs) : Fun Tryz.prog 6 xs (.v (.bool true)) [] := by
  rw [show Tryz.f6.params.toList = [22, 22] from by rw [Tryz.params6]] at h
  obtain ⟨d0, y0, g0, rfl, h0⟩ := h
  obtain ⟨d1, y1, g1, rfl, h1⟩ := h0
  cases h1
  obtain ⟨x0, e0, b0⟩ := open_22 g0
  obtain ⟨x1, e1, b1⟩ := open_22 g1
  rw [e0, e1]
  exact law20_SnapApart_run (law20_SnapApart_eq x0 x1 b0 b1)

set_option maxRecDepth 100000 in
theorem snapApart_lifted (os : Os) (started : os.Started) (H : Type) (enc : TypeId × Value → H) :
    ReturnsInHanded {} Tryz.checked os 6 .any (fun w args => (Rows.snapApartSpec.pre enc Tryz.prog Tryz.f6 [] false w args ∧ laidMetH Tryz.prog Rows.snapApartRow.laid w) ∧ sizedMet enc Tryz.prog Tryz.f6 (OpenSpec.ofChange Rows.snapApartSpec) false w args) (Rows.snapApartSpec.post enc Tryz.prog Tryz.f6 false true false false) := by
  refine returnsInHanded_of_change_and (C := Tryz.checked) (X := fun w _ => laidMetH Tryz.prog Rows.snapApartRow.laid w) (fun _ _ _ hh h => h.of_heap hh) rowOwn started (by kernel_rfl) Tryz.func6
    (ChangeSpec.witness_shaped (enc := enc) (C := Tryz.checked) (os := os) (X := fun w _ => laidMetH Tryz.prog Rows.snapApartRow.laid w) false (World.laidAll Tryz.prog os Rows.snapApartRow.laid) #[.slice none 0 0, .slice none 0 0] 8 (World.laidAll_os _ _ _) (World.shaped_of_ZipB (by kernel_rfl) (by kernel_rfl)) (by kernel_rfl) (by kernel_rfl) (by kernel_rfl)
      (by rw [MakeChecks.laidMetH_plain _ _ _ (by kernel_rfl)]; exact laidMet_laidAll _ (by kernel_rfl) (by kernel_rfl))) ?_
  intro W base args ds gs before hval hW _ _ _ _
  refine law_calls (n := 9) (bt := 4) rfl (by kernel_rfl) (un_of rfl) ?_ (by kernel_rfl) rowLaid (fun xs hxs => snapApart_args xs hxs) hval hW
  intro ds hl
  have hl' : ds.length = 2 := by rw [hl, Tryz.params6]; rfl
  match ds, hl' with
  | [d0, d1], _ => exact ⟨rfl, rfl, rfl⟩

theorem snapApart_over : Rows.snapApartRow.holds Tryz.pinned (OpenSpec.ofChange Rows.snapApartSpec) :=
  OpenClaim.holds_of_wide 6 Tryz.f6 rfl rfl rfl rfl rfl rfl rfl ⟨rfl, rfl, rfl, rfl, rfl⟩ rfl rfl rfl rfl rfl (by kernel_rfl) Tryz.func6 (by kernel_rfl)
    (of_decide_eq_true (by kernel_rfl)) (by unfold Func.isWrapper; first | (rw [if_pos (by decide +kernel)]; kernel_rfl) | (rw [if_neg (by decide +kernel)]; exact ⟨rfl, rfl⟩))
    (fun os started H enc _ => snapApart_lifted os started H enc)

theorem snapApart_card : Rows.SnapApartCardSaid :=
  Claim7.holds_tied_plain_at .later [] [.data, .data, .data] true (true, "c8a48643b86d1f5a7dc6be65dfe687ddbe2e8d2dc53455bffa6437c66adeb369") false snapApart_over (fun _ h => by cases h) (by kernel_rfl) (fun _ h => by cases h) snapApart_row_tie rfl ⟨rfl, rfl⟩ (by kernel_rfl) rfl
    (fun f fn hf hfn => by
      obtain rfl : f = 6 := Option.some.inj ((show Tryz.prog.funcNamed "watchtower/watchtowerlaw20.SnapApart" = some 6 by kernel_rfl).symm.trans hf) |>.symm
      obtain rfl : fn = Tryz.f6 := (Option.some.inj (Tryz.func6.symm.trans hfn)).symm
      exact ⟨by kernel_rfl, fun j t ht => by
        rw [Tryz.params6] at ht
        have hm := Array.mem_of_getElem? ht
        have hm2 : t ∈ [22, 22] := by simpa using hm
        have hall : ([22, 22].all fun u => !Tryz.prog.wantsStandIn u) = true := by kernel_rfl
        exact (show Tryz.prog.wantsStandIn t = false by simpa using List.all_eq_true.1 hall t hm2)⟩)
    (by kernel_rfl)
#print axioms snapApart_card
end Go.Proofs.YtoekflobllmeeaaGreatDoor
