/- A part of the proof: Sh. -/
import Derived.Test.YtchlojabjmlodaaGreatDoorOk
import Derived.Test.YtchlojabjmlodaaGreatDoorA3
import Derived.WalkKit
import Derived.JoinedOf
import Derived.Test.YtchlojabjmlodaaGreatDoorRows
set_option linter.all false
/- What comes in, opened. -/
namespace Go.Proofs.YtchlojabjmlodaaGreatDoor.AM
open Go Go.Proofs
set_option maxRecDepth 20000

theorem rowOwn : ownKnob Tryz.prog.godebug = none := by kernel_rfl
theorem rowLaid : laidOutB Tryz.prog = true := by kernel_rfl
theorem rows_ok {α : Type} {enc : α → List D} {Q : List D → Prop} {ok : α → Prop} (hQ : ∀ r, Q r → ∃ a, r = enc a ∧ ok a) : ∀ {rows : List (List D)}, (∀ r ∈ rows, Q r) → ∃ l : List α, rows = l.map enc ∧ ∀ a ∈ l, ok a
  | [], _ => ⟨[], rfl, fun _ h => by cases h⟩
  | r :: rows, h => by
    obtain ⟨a, rfl, ha⟩ := hQ r (h r List.mem_cons_self)
    obtain ⟨l, rfl, hl⟩ := rows_ok hQ (rows := rows) (fun r hr => h r (List.mem_cons_of_mem _ hr))
    exact ⟨a :: l, rfl, fun b hb => by rcases List.mem_cons.1 hb with rfl | hb; exact ha; exact hl b hb⟩
theorem sh_3 {n : Nat} {r : List D} (h : shD Tryz.prog (n + 1) 3 r) : ∃ x : Int, r = cI x ∧ (okI .i64) x := by
  obtain ⟨i, rfl, h1, h2⟩ := shD_int (ti_spec (ti_of (t := 3) rfl)).1 h
  exact ⟨i, rfl, h1, h2⟩

theorem sh_9 {n : Nat} {r : List D} (h : shD Tryz.prog (n + 1) 9 r) : ∃ x : Str, r = cS x ∧ okS x := by
  obtain ⟨s, rfl, hs⟩ := shD_str (ti_spec (ti_of (t := 9) rfl)).1 h
  exact ⟨s.data.toList, rfl, hs⟩

theorem sh_52 {n : Nat} {r : List D} (h : shD Tryz.prog (n + 2) 52 r) : ∃ x : GPair, r = cGPair x ∧ okGPair x := by
  obtain ⟨a0, b0, rfl, h0, a1, b1, rfl, h1, rfl⟩ := shD_st (ti_spec (ti_of (t := 52) rfl)).1 h
  obtain ⟨x0, rfl, k0⟩ := sh_9 h0
  obtain ⟨x1, rfl, k1⟩ := sh_9 h1
  exact ⟨⟨x0, x1⟩, rfl, k0, k1⟩

theorem sh_33 {n : Nat} {r : List D} (h : shD Tryz.prog (n + 3) 33 r) : ∃ x : (List GPair), r = (cL cGPair) x ∧ (okL okGPair) x := by
  obtain ⟨rows, rfl, hl, hr⟩ := shD_sl (ti_spec (ti_of (t := 33) rfl)).1 h
  obtain ⟨l, rfl, hk⟩ := rows_ok (fun r hr => sh_52 hr) hr
  exact ⟨l, rfl, by simpa using hl, hk⟩

theorem sh_61 {n : Nat} {r : List D} (h : shD Tryz.prog (n + 4) 61 r) : ∃ x : GTold, r = cGTold x ∧ okGTold x := by
  obtain ⟨a0, b0, rfl, h0, a1, b1, rfl, h1, rfl⟩ := shD_st (ti_spec (ti_of (t := 61) rfl)).1 h
  obtain ⟨x0, rfl, k0⟩ := sh_33 h0
  obtain ⟨x1, rfl, k1⟩ := sh_3 h1
  exact ⟨⟨x0, x1⟩, rfl, k0, k1⟩

theorem sh_22 {n : Nat} {r : List D} (h : shD Tryz.prog (n + 5) 22 r) : ∃ x : (List GTold), r = (cL cGTold) x ∧ (okL okGTold) x := by
  obtain ⟨rows, rfl, hl, hr⟩ := shD_sl (ti_spec (ti_of (t := 22) rfl)).1 h
  obtain ⟨l, rfl, hk⟩ := rows_ok (fun r hr => sh_61 hr) hr
  exact ⟨l, rfl, by simpa using hl, hk⟩

theorem sh_4 {n : Nat} {r : List D} (h : shD Tryz.prog (n + 1) 4 r) : ∃ x : Bool, r = cB x ∧ okB x := by
  obtain ⟨b, rfl⟩ := shD_bool (ti_spec (ti_of (t := 4) rfl)).1 h
  exact ⟨b, rfl, trivial⟩

theorem sh_71 {n : Nat} {r : List D} (h : shD Tryz.prog (n + 2) 71 r) : ∃ x : GHold, r = cGHold x ∧ okGHold x := by
  obtain ⟨a0, b0, rfl, h0, a1, b1, rfl, h1, a2, b2, rfl, h2, a3, b3, rfl, h3, rfl⟩ := shD_st (ti_spec (ti_of (t := 71) rfl)).1 h
  obtain ⟨x0, rfl, k0⟩ := sh_4 h0
  obtain ⟨x1, rfl, k1⟩ := sh_3 h1
  obtain ⟨x2, rfl, k2⟩ := sh_4 h2
  obtain ⟨x3, rfl, k3⟩ := sh_3 h3
  exact ⟨⟨x0, x1, x2, x3⟩, rfl, k0, k1, k2, k3⟩

theorem sh_73 {n : Nat} {r : List D} (h : shD Tryz.prog (n + 4) 73 r) : ∃ x : GAlert, r = cGAlert x ∧ okGAlert x := by
  obtain ⟨a0, b0, rfl, h0, a1, b1, rfl, h1, a2, b2, rfl, h2, a3, b3, rfl, h3, rfl⟩ := shD_st (ti_spec (ti_of (t := 73) rfl)).1 h
  obtain ⟨x0, rfl, k0⟩ := sh_33 h0
  obtain ⟨x1, rfl, k1⟩ := sh_71 h1
  obtain ⟨x2, rfl, k2⟩ := sh_3 h2
  obtain ⟨x3, rfl, k3⟩ := sh_3 h3
  exact ⟨⟨x0, x1, x2, x3⟩, rfl, k0, k1, k2, k3⟩

theorem sh_45 {n : Nat} {r : List D} (h : shD Tryz.prog (n + 5) 45 r) : ∃ x : (List GAlert), r = (cL cGAlert) x ∧ (okL okGAlert) x := by
  obtain ⟨rows, rfl, hl, hr⟩ := shD_sl (ti_spec (ti_of (t := 45) rfl)).1 h
  obtain ⟨l, rfl, hk⟩ := rows_ok (fun r hr => sh_73 hr) hr
  exact ⟨l, rfl, by simpa using hl, hk⟩

theorem sh_47 {n : Nat} {r : List D} (h : shD Tryz.prog (n + 6) 47 r) : ∃ x : GTable, r = cGTable x ∧ okGTable x := by
  obtain ⟨a0, b0, rfl, h0, a1, b1, rfl, h1, rfl⟩ := shD_st (ti_spec (ti_of (t := 47) rfl)).1 h
  obtain ⟨x0, rfl, k0⟩ := sh_45 h0
  obtain ⟨x1, rfl, k1⟩ := sh_3 h1
  exact ⟨⟨x0, x1⟩, rfl, k0, k1⟩

theorem sh_23 {n : Nat} {r : List D} (h : shD Tryz.prog (n + 7) 23 r) : ∃ x : (List GTable), r = (cL cGTable) x ∧ (okL okGTable) x := by
  obtain ⟨rows, rfl, hl, hr⟩ := shD_sl (ti_spec (ti_of (t := 23) rfl)).1 h
  obtain ⟨l, rfl, hk⟩ := rows_ok (fun r hr => sh_47 hr) hr
  exact ⟨l, rfl, by simpa using hl, hk⟩

theorem sh_35 {n : Nat} {r : List D} (h : shD Tryz.prog (n + 4) 35 r) : ∃ x : GNote, r = cGNote x ∧ okGNote x := by
  obtain ⟨a0, b0, rfl, h0, a1, b1, rfl, h1, a2, b2, rfl, h2, a3, b3, rfl, h3, a4, b4, rfl, h4, rfl⟩ := shD_st (ti_spec (ti_of (t := 35) rfl)).1 h
  obtain ⟨x0, rfl, k0⟩ := sh_33 h0
  obtain ⟨x1, rfl, k1⟩ := sh_4 h1
  obtain ⟨x2, rfl, k2⟩ := sh_3 h2
  obtain ⟨x3, rfl, k3⟩ := sh_3 h3
  obtain ⟨x4, rfl, k4⟩ := sh_3 h4
  exact ⟨⟨x0, x1, x2, x3, x4⟩, rfl, k0, k1, k2, k3, k4⟩

theorem sh_27 {n : Nat} {r : List D} (h : shD Tryz.prog (n + 5) 27 r) : ∃ x : (List GNote), r = (cL cGNote) x ∧ (okL okGNote) x := by
  obtain ⟨rows, rfl, hl, hr⟩ := shD_sl (ti_spec (ti_of (t := 27) rfl)).1 h
  obtain ⟨l, rfl, hk⟩ := rows_ok (fun r hr => sh_35 hr) hr
  exact ⟨l, rfl, by simpa using hl, hk⟩

theorem sh_29 {n : Nat} {r : List D} (h : shD Tryz.prog (n + 6) 29 r) : ∃ x : GQueue, r = cGQueue x ∧ okGQueue x := by
  obtain ⟨a0, b0, rfl, h0, a1, b1, rfl, h1, a2, b2, rfl, h2, rfl⟩ := shD_st (ti_spec (ti_of (t := 29) rfl)).1 h
  obtain ⟨x0, rfl, k0⟩ := sh_27 h0
  obtain ⟨x1, rfl, k1⟩ := sh_3 h1
  obtain ⟨x2, rfl, k2⟩ := sh_3 h2
  exact ⟨⟨x0, x1, x2⟩, rfl, k0, k1, k2⟩

theorem open_3 {n : Nat} {ds : List D} (h : shD Tryz.prog (n + 1) 3 ds) : ∃ x : Int, argAV Tryz.prog 3 ds = vI x ∧ (okI .i64) x := by
  obtain ⟨x, rfl, hk⟩ := sh_3 h
  refine ⟨x, ?_, hk⟩
  unfold argAV
  rw [(ti_spec (ti_of (t := 3) rfl)).1]
  rfl

theorem open_22 {n : Nat} {ds : List D} (h : shD Tryz.prog (n + 5) 22 ds) : ∃ x : (List GTold), argAV Tryz.prog 22 ds = (sl cGTold) x ∧ (okL okGTold) x := by
  obtain ⟨x, rfl, hk⟩ := sh_22 h
  refine ⟨x, ?_, hk⟩
  unfold argAV
  rw [(ti_spec (ti_of (t := 22) rfl)).1]
  rfl

theorem open_23 {n : Nat} {ds : List D} (h : shD Tryz.prog (n + 7) 23 ds) : ∃ x : (List GTable), argAV Tryz.prog 23 ds = (sl cGTable) x ∧ (okL okGTable) x := by
  obtain ⟨x, rfl, hk⟩ := sh_23 h
  refine ⟨x, ?_, hk⟩
  unfold argAV
  rw [(ti_spec (ti_of (t := 23) rfl)).1]
  rfl

theorem open_29 {n : Nat} {ds : List D} (h : shD Tryz.prog (n + 6) 29 ds) : ∃ x : GQueue, argAV Tryz.prog 29 ds = (ag cGQueue) x ∧ okGQueue x := by
  obtain ⟨x, rfl, hk⟩ := sh_29 h
  refine ⟨x, ?_, hk⟩
  unfold argAV
  rw [(ti_spec (ti_of (t := 29) rfl)).1]
  rfl

theorem open_47 {n : Nat} {ds : List D} (h : shD Tryz.prog (n + 6) 47 ds) : ∃ x : GTable, argAV Tryz.prog 47 ds = (ag cGTable) x ∧ okGTable x := by
  obtain ⟨x, rfl, hk⟩ := sh_47 h
  refine ⟨x, ?_, hk⟩
  unfold argAV
  rw [(ti_spec (ti_of (t := 47) rfl)).1]
  rfl

end Go.Proofs.YtchlojabjmlodaaGreatDoor.AM
