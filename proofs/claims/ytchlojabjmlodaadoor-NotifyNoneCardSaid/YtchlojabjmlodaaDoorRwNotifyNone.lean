/- A part of the proof: RwNotifyNone. -/
import Derived.Test.YtchlojabjmlodaaDoorEqNotifyNone
import Derived.Test.YtchlojabjmlodaaDoorSh
import Derived.Test.YtchlojabjmlodaaDoorCards
import Derived.Test.YtchlojabjmlodaaDoorTie
import Derived.SevenTiedAt
import Derived.Lay
import Derived.LaidMore
import Derived.Test.YtchlojabjmlodaaDoorRd
set_option linter.all false
/- The law NotifyNone: for every input it answers true, and each argument reads behind the call as it read before. No condition. -/
namespace Go.Proofs.YtchlojabjmlodaaDoor
open Go Go.ChangeShapes Go.WideShapes Go.RowKit Go.Proofs.YtchlojabjmlodaaDoor.AM

set_option maxRecDepth 100000 in
theorem notifyNone_args (xs : List AV) (h : argsOk Tryd.prog 9 Tryd.f3.params.toList xs) : Fun Tryd.prog 3 xs (.v (.bool true)) [] := by
  rw [show Tryd.f3.params.toList = [22, 3, 3] from by rw [Tryd.params3]] at h
  obtain ⟨d0, y0, g0, rfl, h0⟩ := h
  obtain ⟨d1, y1, g1, rfl, h1⟩ := h0
  obtain ⟨d2, y2, g2, rfl, h2⟩ := h1
  cases h2
  obtain ⟨x0, e0, b0⟩ := open_22 g0
  obtain ⟨x1, e1, b1⟩ := open_3 g1
  obtain ⟨x2, e2, b2⟩ := open_3 g2
  rw [e0, e1, e2]
  exact law23_NotifyNone_run (law23_NotifyNone_eq x0 x1 x2 b0 b1 b2)

set_option maxRecDepth 100000 in
theorem notifyNone_lifted (os : Os) (started : os.Started) (H : Type) (enc : TypeId × Value → H) :
    ReturnsInHanded {} Tryd.checked os 3 .any (fun w args => (Rows.notifyNoneSpec.pre enc Tryd.prog Tryd.f3 [] false w args ∧ laidMetH Tryd.prog Rows.notifyNoneRow.laid w) ∧ sizedMet enc Tryd.prog Tryd.f3 (OpenSpec.ofChange Rows.notifyNoneSpec) false w args) (Rows.notifyNoneSpec.post enc Tryd.prog Tryd.f3 false true false false) := by
  refine returnsInHanded_of_change_and (C := Tryd.checked) (X := fun w _ => laidMetH Tryd.prog Rows.notifyNoneRow.laid w) (fun _ _ _ hh h => h.of_heap hh) rowOwn started (by kernel_rfl) Tryd.func3
    (ChangeSpec.witness_shaped (enc := enc) (C := Tryd.checked) (os := os) (X := fun w _ => laidMetH Tryd.prog Rows.notifyNoneRow.laid w) false (World.laidAll Tryd.prog os Rows.notifyNoneRow.laid) #[.slice none 0 0, .int .i64 0, .int .i64 0] 8 (World.laidAll_os _ _ _) (World.shaped_of_ZipB (by kernel_rfl) (by kernel_rfl)) (by kernel_rfl) (by kernel_rfl) (by kernel_rfl)
      (by rw [MakeChecks.laidMetH_plain _ _ _ (by kernel_rfl)]; exact laidMet_laidAll _ (by kernel_rfl) (by kernel_rfl))) ?_
  intro W base args ds gs before hval hW _ _ _ _
  refine law_calls (n := 9) (bt := 4) rfl (by kernel_rfl) (un_of rfl) ?_ (by kernel_rfl) rowLaid (fun xs hxs => notifyNone_args xs hxs) hval hW
  intro ds hl
  have hl' : ds.length = 3 := by rw [hl, Tryd.params3]; rfl
  match ds, hl' with
  | [d0, d1, d2], _ => exact ⟨rfl, rfl, rfl⟩

theorem notifyNone_over : Rows.notifyNoneRow.holds Tryd.pinned (OpenSpec.ofChange Rows.notifyNoneSpec) :=
  OpenClaim.holds_of_wide 3 Tryd.f3 rfl rfl rfl rfl rfl rfl rfl ⟨rfl, rfl, rfl, rfl, rfl⟩ rfl rfl rfl rfl rfl (by kernel_rfl) Tryd.func3 (by kernel_rfl)
    (of_decide_eq_true (by kernel_rfl)) (by unfold Func.isWrapper; first | (rw [if_pos (by decide +kernel)]; kernel_rfl) | (rw [if_neg (by decide +kernel)]; exact ⟨rfl, rfl⟩))
    (fun os started H enc _ => notifyNone_lifted os started H enc)

theorem notifyNone_card : Rows.NotifyNoneCardSaid :=
  Claim7.holds_tied_plain_at .later [] [.data, .data, .data] true (true, "78ca118824efb6055bab80a76a94c8c87ccc0008de4a95c275f537db04efb584") false notifyNone_over (fun _ h => by cases h) (by kernel_rfl) (fun _ h => by cases h) notifyNone_row_tie rfl ⟨rfl, rfl⟩ (by kernel_rfl) rfl
    (fun f fn hf hfn => by
      obtain rfl : f = 3 := Option.some.inj ((show Tryd.prog.funcNamed "watchtower/watchtowerlaw23.NotifyNone" = some 3 by kernel_rfl).symm.trans hf) |>.symm
      obtain rfl : fn = Tryd.f3 := (Option.some.inj (Tryd.func3.symm.trans hfn)).symm
      exact ⟨by kernel_rfl, fun j t ht => by
        rw [Tryd.params3] at ht
        have hm := Array.mem_of_getElem? ht
        have hm2 : t ∈ [22, 3, 3] := by simpa using hm
        have hall : ([22, 3, 3].all fun u => !Tryd.prog.wantsStandIn u) = true := by kernel_rfl
        exact (show Tryd.prog.wantsStandIn t = false by simpa using List.all_eq_true.1 hall t hm2)⟩)
    (by kernel_rfl)
#print axioms notifyNone_card
end Go.Proofs.YtchlojabjmlodaaDoor
