/- A part of the proof: Sh. -/
import Derived.Test.YtchlojabjmlodaaDoorOk
import Derived.Test.YtchlojabjmlodaaDoorA3
import Derived.WalkKit
import Derived.JoinedOf
import Derived.Test.YtchlojabjmlodaaDoorRows
set_option linter.all false
/- What comes in, opened. -/
namespace Go.Proofs.YtchlojabjmlodaaDoor.AM
open Go Go.Proofs
set_option maxRecDepth 20000

theorem rowOwn : ownKnob Tryd.prog.godebug = none := by kernel_rfl
theorem rowLaid : laidOutB Tryd.prog = true := by kernel_rfl
theorem rows_ok {α : Type} {enc : α → List D} {Q : List D → Prop} {ok : α → Prop} (hQ : ∀ r, Q r → ∃ a, r = enc a ∧ ok a) : ∀ {rows : List (List D)}, (∀ r ∈ rows, Q r) → ∃ l : List α, rows = l.map enc ∧ ∀ a ∈ l, ok a
  | [], _ => ⟨[], rfl, fun _ h => by cases h⟩
  | r :: rows, h => by
    obtain ⟨a, rfl, ha⟩ := hQ r (h r List.mem_cons_self)
    obtain ⟨l, rfl, hl⟩ := rows_ok hQ (rows := rows) (fun r hr => h r (List.mem_cons_of_mem _ hr))
    exact ⟨a :: l, rfl, fun b hb => by rcases List.mem_cons.1 hb with rfl | hb; exact ha; exact hl b hb⟩
theorem sh_3 {n : Nat} {r : List D} (h : shD Tryd.prog (n + 1) 3 r) : ∃ x : Int, r = cI x ∧ (okI .i64) x := by
  obtain ⟨i, rfl, h1, h2⟩ := shD_int (ti_spec (ti_of (t := 3) rfl)).1 h
  exact ⟨i, rfl, h1, h2⟩

theorem sh_9 {n : Nat} {r : List D} (h : shD Tryd.prog (n + 1) 9 r) : ∃ x : Str, r = cS x ∧ okS x := by
  obtain ⟨s, rfl, hs⟩ := shD_str (ti_spec (ti_of (t := 9) rfl)).1 h
  exact ⟨s.data.toList, rfl, hs⟩

theorem sh_38 {n : Nat} {r : List D} (h : shD Tryd.prog (n + 2) 38 r) : ∃ x : GPair, r = cGPair x ∧ okGPair x := by
  obtain ⟨a0, b0, rfl, h0, a1, b1, rfl, h1, rfl⟩ := shD_st (ti_spec (ti_of (t := 38) rfl)).1 h
  obtain ⟨x0, rfl, k0⟩ := sh_9 h0
  obtain ⟨x1, rfl, k1⟩ := sh_9 h1
  exact ⟨⟨x0, x1⟩, rfl, k0, k1⟩

theorem sh_31 {n : Nat} {r : List D} (h : shD Tryd.prog (n + 3) 31 r) : ∃ x : (List GPair), r = (cL cGPair) x ∧ (okL okGPair) x := by
  obtain ⟨rows, rfl, hl, hr⟩ := shD_sl (ti_spec (ti_of (t := 31) rfl)).1 h
  obtain ⟨l, rfl, hk⟩ := rows_ok (fun r hr => sh_38 hr) hr
  exact ⟨l, rfl, by simpa using hl, hk⟩

theorem sh_35 {n : Nat} {r : List D} (h : shD Tryd.prog (n + 4) 35 r) : ∃ x : GTold, r = cGTold x ∧ okGTold x := by
  obtain ⟨a0, b0, rfl, h0, a1, b1, rfl, h1, rfl⟩ := shD_st (ti_spec (ti_of (t := 35) rfl)).1 h
  obtain ⟨x0, rfl, k0⟩ := sh_31 h0
  obtain ⟨x1, rfl, k1⟩ := sh_3 h1
  exact ⟨⟨x0, x1⟩, rfl, k0, k1⟩

theorem sh_22 {n : Nat} {r : List D} (h : shD Tryd.prog (n + 5) 22 r) : ∃ x : (List GTold), r = (cL cGTold) x ∧ (okL okGTold) x := by
  obtain ⟨rows, rfl, hl, hr⟩ := shD_sl (ti_spec (ti_of (t := 22) rfl)).1 h
  obtain ⟨l, rfl, hk⟩ := rows_ok (fun r hr => sh_35 hr) hr
  exact ⟨l, rfl, by simpa using hl, hk⟩

theorem open_3 {n : Nat} {ds : List D} (h : shD Tryd.prog (n + 1) 3 ds) : ∃ x : Int, argAV Tryd.prog 3 ds = vI x ∧ (okI .i64) x := by
  obtain ⟨x, rfl, hk⟩ := sh_3 h
  refine ⟨x, ?_, hk⟩
  unfold argAV
  rw [(ti_spec (ti_of (t := 3) rfl)).1]
  rfl

theorem open_22 {n : Nat} {ds : List D} (h : shD Tryd.prog (n + 5) 22 ds) : ∃ x : (List GTold), argAV Tryd.prog 22 ds = (sl cGTold) x ∧ (okL okGTold) x := by
  obtain ⟨x, rfl, hk⟩ := sh_22 h
  refine ⟨x, ?_, hk⟩
  unfold argAV
  rw [(ti_spec (ti_of (t := 22) rfl)).1]
  rfl

end Go.Proofs.YtchlojabjmlodaaDoor.AM
