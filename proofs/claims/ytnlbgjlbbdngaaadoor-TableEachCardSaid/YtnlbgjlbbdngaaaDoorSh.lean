/- A part of the proof: Sh. -/
import Derived.Test.YtnlbgjlbbdngaaaDoorOk
import Derived.Test.YtnlbgjlbbdngaaaDoorA3
import Derived.WalkKit
import Derived.JoinedOf
import Derived.Test.YtnlbgjlbbdngaaaDoorRows
set_option linter.all false
/- What comes in, opened. -/
namespace Go.Proofs.YtnlbgjlbbdngaaaDoor.AM
open Go Go.Proofs
set_option maxRecDepth 20000

theorem rowOwn : ownKnob Tryd.prog.godebug = none := by kernel_rfl
theorem rowLaid : laidOutB Tryd.prog = true := by kernel_rfl
theorem rows_ok {α : Type} {enc : α → List D} {Q : List D → Prop} {ok : α → Prop} (hQ : ∀ r, Q r → ∃ a, r = enc a ∧ ok a) : ∀ {rows : List (List D)}, (∀ r ∈ rows, Q r) → ∃ l : List α, rows = l.map enc ∧ ∀ a ∈ l, ok a
  | [], _ => ⟨[], rfl, fun _ h => by cases h⟩
  | r :: rows, h => by
    obtain ⟨a, rfl, ha⟩ := hQ r (h r List.mem_cons_self)
    obtain ⟨l, rfl, hl⟩ := rows_ok hQ (rows := rows) (fun r hr => h r (List.mem_cons_of_mem _ hr))
    exact ⟨a :: l, rfl, fun b hb => by rcases List.mem_cons.1 hb with rfl | hb; exact ha; exact hl b hb⟩
theorem sh_3 {n : Nat} {r : List D} (h : shD Tryd.prog (n + 1) 3 r) : ∃ x : Int, r = cI x ∧ (okI .i64) x := by
  obtain ⟨i, rfl, h1, h2⟩ := shD_int (ti_spec (ti_of (t := 3) rfl)).1 h
  exact ⟨i, rfl, h1, h2⟩

theorem sh_9 {n : Nat} {r : List D} (h : shD Tryd.prog (n + 1) 9 r) : ∃ x : Str, r = cS x ∧ okS x := by
  obtain ⟨s, rfl, hs⟩ := shD_str (ti_spec (ti_of (t := 9) rfl)).1 h
  exact ⟨s.data.toList, rfl, hs⟩

theorem sh_53 {n : Nat} {r : List D} (h : shD Tryd.prog (n + 2) 53 r) : ∃ x : GPair, r = cGPair x ∧ okGPair x := by
  obtain ⟨a0, b0, rfl, h0, a1, b1, rfl, h1, rfl⟩ := shD_st (ti_spec (ti_of (t := 53) rfl)).1 h
  obtain ⟨x0, rfl, k0⟩ := sh_9 h0
  obtain ⟨x1, rfl, k1⟩ := sh_9 h1
  exact ⟨⟨x0, x1⟩, rfl, k0, k1⟩

theorem sh_26 {n : Nat} {r : List D} (h : shD Tryd.prog (n + 3) 26 r) : ∃ x : (List GPair), r = (cL cGPair) x ∧ (okL okGPair) x := by
  obtain ⟨rows, rfl, hl, hr⟩ := shD_sl (ti_spec (ti_of (t := 26) rfl)).1 h
  obtain ⟨l, rfl, hk⟩ := rows_ok (fun r hr => sh_53 hr) hr
  exact ⟨l, rfl, by simpa using hl, hk⟩

theorem sh_4 {n : Nat} {r : List D} (h : shD Tryd.prog (n + 1) 4 r) : ∃ x : Bool, r = cB x ∧ okB x := by
  obtain ⟨b, rfl⟩ := shD_bool (ti_spec (ti_of (t := 4) rfl)).1 h
  exact ⟨b, rfl, trivial⟩

theorem sh_33 {n : Nat} {r : List D} (h : shD Tryd.prog (n + 2) 33 r) : ∃ x : GHold, r = cGHold x ∧ okGHold x := by
  obtain ⟨a0, b0, rfl, h0, a1, b1, rfl, h1, a2, b2, rfl, h2, a3, b3, rfl, h3, rfl⟩ := shD_st (ti_spec (ti_of (t := 33) rfl)).1 h
  obtain ⟨x0, rfl, k0⟩ := sh_4 h0
  obtain ⟨x1, rfl, k1⟩ := sh_3 h1
  obtain ⟨x2, rfl, k2⟩ := sh_4 h2
  obtain ⟨x3, rfl, k3⟩ := sh_3 h3
  exact ⟨⟨x0, x1, x2, x3⟩, rfl, k0, k1, k2, k3⟩

theorem sh_35 {n : Nat} {r : List D} (h : shD Tryd.prog (n + 4) 35 r) : ∃ x : GAlert, r = cGAlert x ∧ okGAlert x := by
  obtain ⟨a0, b0, rfl, h0, a1, b1, rfl, h1, a2, b2, rfl, h2, a3, b3, rfl, h3, rfl⟩ := shD_st (ti_spec (ti_of (t := 35) rfl)).1 h
  obtain ⟨x0, rfl, k0⟩ := sh_26 h0
  obtain ⟨x1, rfl, k1⟩ := sh_33 h1
  obtain ⟨x2, rfl, k2⟩ := sh_3 h2
  obtain ⟨x3, rfl, k3⟩ := sh_3 h3
  exact ⟨⟨x0, x1, x2, x3⟩, rfl, k0, k1, k2, k3⟩

theorem sh_22 {n : Nat} {r : List D} (h : shD Tryd.prog (n + 5) 22 r) : ∃ x : (List GAlert), r = (cL cGAlert) x ∧ (okL okGAlert) x := by
  obtain ⟨rows, rfl, hl, hr⟩ := shD_sl (ti_spec (ti_of (t := 22) rfl)).1 h
  obtain ⟨l, rfl, hk⟩ := rows_ok (fun r hr => sh_35 hr) hr
  exact ⟨l, rfl, by simpa using hl, hk⟩

theorem sh_24 {n : Nat} {r : List D} (h : shD Tryd.prog (n + 6) 24 r) : ∃ x : GTable, r = cGTable x ∧ okGTable x := by
  obtain ⟨a0, b0, rfl, h0, a1, b1, rfl, h1, rfl⟩ := shD_st (ti_spec (ti_of (t := 24) rfl)).1 h
  obtain ⟨x0, rfl, k0⟩ := sh_22 h0
  obtain ⟨x1, rfl, k1⟩ := sh_3 h1
  exact ⟨⟨x0, x1⟩, rfl, k0, k1⟩

theorem sh_47 {n : Nat} {r : List D} (h : shD Tryd.prog (n + 2) 47 r) : ∃ x : GSample, r = cGSample x ∧ okGSample x := by
  obtain ⟨a0, b0, rfl, h0, a1, b1, rfl, h1, rfl⟩ := shD_st (ti_spec (ti_of (t := 47) rfl)).1 h
  obtain ⟨x0, rfl, k0⟩ := sh_3 h0
  obtain ⟨x1, rfl, k1⟩ := sh_3 h1
  exact ⟨⟨x0, x1⟩, rfl, k0, k1⟩

theorem sh_49 {n : Nat} {r : List D} (h : shD Tryd.prog (n + 4) 49 r) : ∃ x : GFound, r = cGFound x ∧ okGFound x := by
  obtain ⟨a0, b0, rfl, h0, a1, b1, rfl, h1, rfl⟩ := shD_st (ti_spec (ti_of (t := 49) rfl)).1 h
  obtain ⟨x0, rfl, k0⟩ := sh_26 h0
  obtain ⟨x1, rfl, k1⟩ := sh_47 h1
  exact ⟨⟨x0, x1⟩, rfl, k0, k1⟩

theorem sh_25 {n : Nat} {r : List D} (h : shD Tryd.prog (n + 5) 25 r) : ∃ x : (List GFound), r = (cL cGFound) x ∧ (okL okGFound) x := by
  obtain ⟨rows, rfl, hl, hr⟩ := shD_sl (ti_spec (ti_of (t := 25) rfl)).1 h
  obtain ⟨l, rfl, hk⟩ := rows_ok (fun r hr => sh_49 hr) hr
  exact ⟨l, rfl, by simpa using hl, hk⟩

theorem open_3 {n : Nat} {ds : List D} (h : shD Tryd.prog (n + 1) 3 ds) : ∃ x : Int, argAV Tryd.prog 3 ds = vI x ∧ (okI .i64) x := by
  obtain ⟨x, rfl, hk⟩ := sh_3 h
  refine ⟨x, ?_, hk⟩
  unfold argAV
  rw [(ti_spec (ti_of (t := 3) rfl)).1]
  rfl

theorem open_24 {n : Nat} {ds : List D} (h : shD Tryd.prog (n + 6) 24 ds) : ∃ x : GTable, argAV Tryd.prog 24 ds = (ag cGTable) x ∧ okGTable x := by
  obtain ⟨x, rfl, hk⟩ := sh_24 h
  refine ⟨x, ?_, hk⟩
  unfold argAV
  rw [(ti_spec (ti_of (t := 24) rfl)).1]
  rfl

theorem open_25 {n : Nat} {ds : List D} (h : shD Tryd.prog (n + 5) 25 ds) : ∃ x : (List GFound), argAV Tryd.prog 25 ds = (sl cGFound) x ∧ (okL okGFound) x := by
  obtain ⟨x, rfl, hk⟩ := sh_25 h
  refine ⟨x, ?_, hk⟩
  unfold argAV
  rw [(ti_spec (ti_of (t := 25) rfl)).1]
  rfl

theorem open_26 {n : Nat} {ds : List D} (h : shD Tryd.prog (n + 3) 26 ds) : ∃ x : (List GPair), argAV Tryd.prog 26 ds = (sl cGPair) x ∧ (okL okGPair) x := by
  obtain ⟨x, rfl, hk⟩ := sh_26 h
  refine ⟨x, ?_, hk⟩
  unfold argAV
  rw [(ti_spec (ti_of (t := 26) rfl)).1]
  rfl

end Go.Proofs.YtnlbgjlbbdngaaaDoor.AM
