/- A part of the proof: Sh. -/
import Derived.Test.YtoekflobllmeeaaGreatDoorOk
import Derived.Test.YtoekflobllmeeaaGreatDoorA3
import Derived.WalkKit
import Derived.JoinedOf
import Derived.Test.YtoekflobllmeeaaGreatDoorRows
set_option linter.all false
/- What comes in, opened. -/
namespace Go.Proofs.YtoekflobllmeeaaGreatDoor.AM
open Go Go.Proofs
set_option maxRecDepth 20000

theorem rowOwn : ownKnob Tryz.prog.godebug = none := by kernel_rfl
theorem rowLaid : laidOutB Tryz.prog = true := by kernel_rfl
theorem rows_ok {α : Type} {enc : α → List D} {Q : List D → Prop} {ok : α → Prop} (hQ : ∀ r, Q r → ∃ a, r = enc a ∧ ok a) : ∀ {rows : List (List D)}, (∀ r ∈ rows, Q r) → ∃ l : List α, rows = l.map enc ∧ ∀ a ∈ l, ok a
  | [], _ => ⟨[], rfl, fun _ h => by cases h⟩
  | r :: rows, h => by
    obtain ⟨a, rfl, ha⟩ := hQ r (h r List.mem_cons_self)
    obtain ⟨l, rfl, hl⟩ := rows_ok hQ (rows := rows) (fun r hr => h r (List.mem_cons_of_mem _ hr))
    exact ⟨a :: l, rfl, fun b hb => by rcases List.mem_cons.1 hb with rfl | hb; exact ha; exact hl b hb⟩
theorem sh_3 {n : Nat} {r : List D} (h : shD Tryz.prog (n + 1) 3 r) : ∃ x : Int, r = cI x ∧ (okI .i64) x := by
  obtain ⟨i, rfl, h1, h2⟩ := shD_int (ti_spec (ti_of (t := 3) rfl)).1 h
  exact ⟨i, rfl, h1, h2⟩

theorem sh_5 {n : Nat} {r : List D} (h : shD Tryz.prog (n + 1) 5 r) : ∃ x : Int, r = (cK .u8) x ∧ (okI .u8) x := by
  obtain ⟨i, rfl, h1, h2⟩ := shD_int (ti_spec (ti_of (t := 5) rfl)).1 h
  exact ⟨i, rfl, h1, h2⟩

theorem sh_9 {n : Nat} {r : List D} (h : shD Tryz.prog (n + 1) 9 r) : ∃ x : Str, r = cS x ∧ okS x := by
  obtain ⟨s, rfl, hs⟩ := shD_str (ti_spec (ti_of (t := 9) rfl)).1 h
  exact ⟨s.data.toList, rfl, hs⟩

theorem sh_25 {n : Nat} {r : List D} (h : shD Tryz.prog (n + 2) 25 r) : ∃ x : GKey, r = cGKey x ∧ okGKey x := by
  obtain ⟨a0, b0, rfl, h0, a1, b1, rfl, h1, rfl⟩ := shD_st (ti_spec (ti_of (t := 25) rfl)).1 h
  obtain ⟨x0, rfl, k0⟩ := sh_9 h0
  obtain ⟨x1, rfl, k1⟩ := sh_9 h1
  exact ⟨⟨x0, x1⟩, rfl, k0, k1⟩

theorem sh_50 {n : Nat} {r : List D} (h : shD Tryz.prog (n + 2) 50 r) : ∃ x : GPair, r = cGPair x ∧ okGPair x := by
  obtain ⟨a0, b0, rfl, h0, a1, b1, rfl, h1, rfl⟩ := shD_st (ti_spec (ti_of (t := 50) rfl)).1 h
  obtain ⟨x0, rfl, k0⟩ := sh_9 h0
  obtain ⟨x1, rfl, k1⟩ := sh_9 h1
  exact ⟨⟨x0, x1⟩, rfl, k0, k1⟩

theorem sh_41 {n : Nat} {r : List D} (h : shD Tryz.prog (n + 3) 41 r) : ∃ x : (List GPair), r = (cL cGPair) x ∧ (okL okGPair) x := by
  obtain ⟨rows, rfl, hl, hr⟩ := shD_sl (ti_spec (ti_of (t := 41) rfl)).1 h
  obtain ⟨l, rfl, hk⟩ := rows_ok (fun r hr => sh_50 hr) hr
  exact ⟨l, rfl, by simpa using hl, hk⟩

theorem sh_4 {n : Nat} {r : List D} (h : shD Tryz.prog (n + 1) 4 r) : ∃ x : Bool, r = cB x ∧ okB x := by
  obtain ⟨b, rfl⟩ := shD_bool (ti_spec (ti_of (t := 4) rfl)).1 h
  exact ⟨b, rfl, trivial⟩

theorem sh_43 {n : Nat} {r : List D} (h : shD Tryz.prog (n + 2) 43 r) : ∃ x : GHold, r = cGHold x ∧ okGHold x := by
  obtain ⟨a0, b0, rfl, h0, a1, b1, rfl, h1, a2, b2, rfl, h2, a3, b3, rfl, h3, rfl⟩ := shD_st (ti_spec (ti_of (t := 43) rfl)).1 h
  obtain ⟨x0, rfl, k0⟩ := sh_4 h0
  obtain ⟨x1, rfl, k1⟩ := sh_3 h1
  obtain ⟨x2, rfl, k2⟩ := sh_4 h2
  obtain ⟨x3, rfl, k3⟩ := sh_3 h3
  exact ⟨⟨x0, x1, x2, x3⟩, rfl, k0, k1, k2, k3⟩

theorem sh_45 {n : Nat} {r : List D} (h : shD Tryz.prog (n + 4) 45 r) : ∃ x : GAlert, r = cGAlert x ∧ okGAlert x := by
  obtain ⟨a0, b0, rfl, h0, a1, b1, rfl, h1, a2, b2, rfl, h2, a3, b3, rfl, h3, rfl⟩ := shD_st (ti_spec (ti_of (t := 45) rfl)).1 h
  obtain ⟨x0, rfl, k0⟩ := sh_41 h0
  obtain ⟨x1, rfl, k1⟩ := sh_43 h1
  obtain ⟨x2, rfl, k2⟩ := sh_3 h2
  obtain ⟨x3, rfl, k3⟩ := sh_3 h3
  exact ⟨⟨x0, x1, x2, x3⟩, rfl, k0, k1, k2, k3⟩

theorem sh_34 {n : Nat} {r : List D} (h : shD Tryz.prog (n + 5) 34 r) : ∃ x : (List GAlert), r = (cL cGAlert) x ∧ (okL okGAlert) x := by
  obtain ⟨rows, rfl, hl, hr⟩ := shD_sl (ti_spec (ti_of (t := 34) rfl)).1 h
  obtain ⟨l, rfl, hk⟩ := rows_ok (fun r hr => sh_45 hr) hr
  exact ⟨l, rfl, by simpa using hl, hk⟩

theorem sh_36 {n : Nat} {r : List D} (h : shD Tryz.prog (n + 6) 36 r) : ∃ x : GTable, r = cGTable x ∧ okGTable x := by
  obtain ⟨a0, b0, rfl, h0, a1, b1, rfl, h1, rfl⟩ := shD_st (ti_spec (ti_of (t := 36) rfl)).1 h
  obtain ⟨x0, rfl, k0⟩ := sh_34 h0
  obtain ⟨x1, rfl, k1⟩ := sh_3 h1
  exact ⟨⟨x0, x1⟩, rfl, k0, k1⟩

theorem sh_40 {n : Nat} {r : List D} (h : shD Tryz.prog (n + 7) 40 r) : ∃ x : GSaved, r = cGSaved x ∧ okGSaved x := by
  obtain ⟨a0, b0, rfl, h0, a1, b1, rfl, h1, rfl⟩ := shD_st (ti_spec (ti_of (t := 40) rfl)).1 h
  obtain ⟨x0, rfl, k0⟩ := sh_25 h0
  obtain ⟨x1, rfl, k1⟩ := sh_36 h1
  exact ⟨⟨x0, x1⟩, rfl, k0, k1⟩

theorem sh_22 {n : Nat} {r : List D} (h : shD Tryz.prog (n + 8) 22 r) : ∃ x : (List GSaved), r = (cL cGSaved) x ∧ (okL okGSaved) x := by
  obtain ⟨rows, rfl, hl, hr⟩ := shD_sl (ti_spec (ti_of (t := 22) rfl)).1 h
  obtain ⟨l, rfl, hk⟩ := rows_ok (fun r hr => sh_40 hr) hr
  exact ⟨l, rfl, by simpa using hl, hk⟩

theorem sh_23 {n : Nat} {r : List D} (h : shD Tryz.prog (n + 2) 23 r) : ∃ x : (List Int), r = (cL (cK .u8)) x ∧ (okL (okI .u8)) x := by
  obtain ⟨rows, rfl, hl, hr⟩ := shD_sl (ti_spec (ti_of (t := 23) rfl)).1 h
  obtain ⟨l, rfl, hk⟩ := rows_ok (fun r hr => sh_5 hr) hr
  exact ⟨l, rfl, by simpa using hl, hk⟩

theorem open_3 {n : Nat} {ds : List D} (h : shD Tryz.prog (n + 1) 3 ds) : ∃ x : Int, argAV Tryz.prog 3 ds = vI x ∧ (okI .i64) x := by
  obtain ⟨x, rfl, hk⟩ := sh_3 h
  refine ⟨x, ?_, hk⟩
  unfold argAV
  rw [(ti_spec (ti_of (t := 3) rfl)).1]
  rfl

theorem open_5 {n : Nat} {ds : List D} (h : shD Tryz.prog (n + 1) 5 ds) : ∃ x : Int, argAV Tryz.prog 5 ds = (vK .u8) x ∧ (okI .u8) x := by
  obtain ⟨x, rfl, hk⟩ := sh_5 h
  refine ⟨x, ?_, hk⟩
  unfold argAV
  rw [(ti_spec (ti_of (t := 5) rfl)).1]
  rfl

theorem open_22 {n : Nat} {ds : List D} (h : shD Tryz.prog (n + 8) 22 ds) : ∃ x : (List GSaved), argAV Tryz.prog 22 ds = (sl cGSaved) x ∧ (okL okGSaved) x := by
  obtain ⟨x, rfl, hk⟩ := sh_22 h
  refine ⟨x, ?_, hk⟩
  unfold argAV
  rw [(ti_spec (ti_of (t := 22) rfl)).1]
  rfl

theorem open_23 {n : Nat} {ds : List D} (h : shD Tryz.prog (n + 2) 23 ds) : ∃ x : (List Int), argAV Tryz.prog 23 ds = (sl (cK .u8)) x ∧ (okL (okI .u8)) x := by
  obtain ⟨x, rfl, hk⟩ := sh_23 h
  refine ⟨x, ?_, hk⟩
  unfold argAV
  rw [(ti_spec (ti_of (t := 23) rfl)).1]
  rfl

theorem open_25 {n : Nat} {ds : List D} (h : shD Tryz.prog (n + 2) 25 ds) : ∃ x : GKey, argAV Tryz.prog 25 ds = (ag cGKey) x ∧ okGKey x := by
  obtain ⟨x, rfl, hk⟩ := sh_25 h
  refine ⟨x, ?_, hk⟩
  unfold argAV
  rw [(ti_spec (ti_of (t := 25) rfl)).1]
  rfl

end Go.Proofs.YtoekflobllmeeaaGreatDoor.AM
