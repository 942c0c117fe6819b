/- A part of the proof: Sh. -/
import Derived.Test.YtoekflobllmeeaaDoorOk
import Derived.Test.YtoekflobllmeeaaDoorA3
import Derived.WalkKit
import Derived.JoinedOf
import Derived.Test.YtoekflobllmeeaaDoorRows
set_option linter.all false
/- What comes in, opened. -/
namespace Go.Proofs.YtoekflobllmeeaaDoor.AM
open Go Go.Proofs
set_option maxRecDepth 20000

theorem rowOwn : ownKnob Tryd.prog.godebug = none := by kernel_rfl
theorem rowLaid : laidOutB Tryd.prog = true := by kernel_rfl
theorem rows_ok {α : Type} {enc : α → List D} {Q : List D → Prop} {ok : α → Prop} (hQ : ∀ r, Q r → ∃ a, r = enc a ∧ ok a) : ∀ {rows : List (List D)}, (∀ r ∈ rows, Q r) → ∃ l : List α, rows = l.map enc ∧ ∀ a ∈ l, ok a
  | [], _ => ⟨[], rfl, fun _ h => by cases h⟩
  | r :: rows, h => by
    obtain ⟨a, rfl, ha⟩ := hQ r (h r List.mem_cons_self)
    obtain ⟨l, rfl, hl⟩ := rows_ok hQ (rows := rows) (fun r hr => h r (List.mem_cons_of_mem _ hr))
    exact ⟨a :: l, rfl, fun b hb => by rcases List.mem_cons.1 hb with rfl | hb; exact ha; exact hl b hb⟩
theorem sh_5 {n : Nat} {r : List D} (h : shD Tryd.prog (n + 1) 5 r) : ∃ x : Int, r = (cK .u8) x ∧ (okI .u8) x := by
  obtain ⟨i, rfl, h1, h2⟩ := shD_int (ti_spec (ti_of (t := 5) rfl)).1 h
  exact ⟨i, rfl, h1, h2⟩

theorem sh_22 {n : Nat} {r : List D} (h : shD Tryd.prog (n + 2) 22 r) : ∃ x : (List Int), r = (cL (cK .u8)) x ∧ (okL (okI .u8)) x := by
  obtain ⟨rows, rfl, hl, hr⟩ := shD_sl (ti_spec (ti_of (t := 22) rfl)).1 h
  obtain ⟨l, rfl, hk⟩ := rows_ok (fun r hr => sh_5 hr) hr
  exact ⟨l, rfl, by simpa using hl, hk⟩

theorem open_22 {n : Nat} {ds : List D} (h : shD Tryd.prog (n + 2) 22 ds) : ∃ x : (List Int), argAV Tryd.prog 22 ds = (sl (cK .u8)) x ∧ (okL (okI .u8)) x := by
  obtain ⟨x, rfl, hk⟩ := sh_22 h
  refine ⟨x, ?_, hk⟩
  unfold argAV
  rw [(ti_spec (ti_of (t := 22) rfl)).1]
  rfl

end Go.Proofs.YtoekflobllmeeaaDoor.AM
