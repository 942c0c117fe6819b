/- A part of the proof: Shr, Gm. -/
import Derived.Test.YtcpjmkbcefmldaaGreatDoorOk
import Derived.Test.YtcpjmkbcefmldaaGreatDoorA3
import Derived.WalkKit
import Derived.JoinedOf
import Derived.Test.YtcpjmkbcefmldaaGreatDoorRows
import Derived.OpenShut
import Derived.FnData
import Derived.ChangeArms
set_option linter.all false
/- What comes in, opened. -/
namespace Go.Proofs.YtcpjmkbcefmldaaGreatDoor.AM
open Go Go.Proofs
set_option maxRecDepth 20000

theorem rowOwn : ownKnob Tryz.prog.godebug = none := by kernel_rfl
theorem rowLaid : laidOutB Tryz.prog = true := by kernel_rfl
theorem rows_ok {α : Type} {enc : α → List D} {Q : List D → Prop} {ok : α → Prop} (hQ : ∀ r, Q r → ∃ a, r = enc a ∧ ok a) : ∀ {rows : List (List D)}, (∀ r ∈ rows, Q r) → ∃ l : List α, rows = l.map enc ∧ ∀ a ∈ l, ok a
  | [], _ => ⟨[], rfl, fun _ h => by cases h⟩
  | r :: rows, h => by
    obtain ⟨a, rfl, ha⟩ := hQ r (h r List.mem_cons_self)
    obtain ⟨l, rfl, hl⟩ := rows_ok hQ (rows := rows) (fun r hr => h r (List.mem_cons_of_mem _ hr))
    exact ⟨a :: l, rfl, fun b hb => by rcases List.mem_cons.1 hb with rfl | hb; exact ha; exact hl b hb⟩
theorem sh_3 {n : Nat} {r : List D} (h : shD Tryz.prog (n + 1) 3 r) : ∃ x : Int, r = cI x ∧ (okI .i64) x := by
  obtain ⟨i, rfl, h1, h2⟩ := shD_int (ti_spec (ti_of (t := 3) rfl)).1 h
  exact ⟨i, rfl, h1, h2⟩

theorem sh_9 {n : Nat} {r : List D} (h : shD Tryz.prog (n + 1) 9 r) : ∃ x : Str, r = cS x ∧ okS x := by
  obtain ⟨s, rfl, hs⟩ := shD_str (ti_spec (ti_of (t := 9) rfl)).1 h
  exact ⟨s.data.toList, rfl, hs⟩

theorem sh_51 {n : Nat} {r : List D} (h : shD Tryz.prog (n + 2) 51 r) : ∃ x : GPair, r = cGPair x ∧ okGPair x := by
  obtain ⟨a0, b0, rfl, h0, a1, b1, rfl, h1, rfl⟩ := shD_st (ti_spec (ti_of (t := 51) rfl)).1 h
  obtain ⟨x0, rfl, k0⟩ := sh_9 h0
  obtain ⟨x1, rfl, k1⟩ := sh_9 h1
  exact ⟨⟨x0, x1⟩, rfl, k0, k1⟩

theorem sh_28 {n : Nat} {r : List D} (h : shD Tryz.prog (n + 3) 28 r) : ∃ x : (List GPair), r = (cL cGPair) x ∧ (okL okGPair) x := by
  obtain ⟨rows, rfl, hl, hr⟩ := shD_sl (ti_spec (ti_of (t := 28) rfl)).1 h
  obtain ⟨l, rfl, hk⟩ := rows_ok (fun r hr => sh_51 hr) hr
  exact ⟨l, rfl, by simpa using hl, hk⟩

theorem sh_39 {n : Nat} {r : List D} (h : shD Tryz.prog (n + 2) 39 r) : ∃ x : GSample, r = cGSample x ∧ okGSample x := by
  obtain ⟨a0, b0, rfl, h0, a1, b1, rfl, h1, rfl⟩ := shD_st (ti_spec (ti_of (t := 39) rfl)).1 h
  obtain ⟨x0, rfl, k0⟩ := sh_3 h0
  obtain ⟨x1, rfl, k1⟩ := sh_3 h1
  exact ⟨⟨x0, x1⟩, rfl, k0, k1⟩

theorem sh_75 {n : Nat} {r : List D} (h : shD Tryz.prog (n + 3) 75 r) : ∃ x : (List GSample), r = (cL cGSample) x ∧ (okL okGSample) x := by
  obtain ⟨rows, rfl, hl, hr⟩ := shD_sl (ti_spec (ti_of (t := 75) rfl)).1 h
  obtain ⟨l, rfl, hk⟩ := rows_ok (fun r hr => sh_39 hr) hr
  exact ⟨l, rfl, by simpa using hl, hk⟩

theorem sh_77 {n : Nat} {r : List D} (h : shD Tryz.prog (n + 4) 77 r) : ∃ x : GSeries, r = cGSeries x ∧ okGSeries x := by
  obtain ⟨a0, b0, rfl, h0, a1, b1, rfl, h1, rfl⟩ := shD_st (ti_spec (ti_of (t := 77) rfl)).1 h
  obtain ⟨x0, rfl, k0⟩ := sh_28 h0
  obtain ⟨x1, rfl, k1⟩ := sh_75 h1
  exact ⟨⟨x0, x1⟩, rfl, k0, k1⟩

theorem sh_22 {n : Nat} {r : List D} (h : shD Tryz.prog (n + 5) 22 r) : ∃ x : (List GSeries), r = (cL cGSeries) x ∧ (okL okGSeries) x := by
  obtain ⟨rows, rfl, hl, hr⟩ := shD_sl (ti_spec (ti_of (t := 22) rfl)).1 h
  obtain ⟨l, rfl, hk⟩ := rows_ok (fun r hr => sh_77 hr) hr
  exact ⟨l, rfl, by simpa using hl, hk⟩

theorem sh_4 {n : Nat} {r : List D} (h : shD Tryz.prog (n + 1) 4 r) : ∃ x : Bool, r = cB x ∧ okB x := by
  obtain ⟨b, rfl⟩ := shD_bool (ti_spec (ti_of (t := 4) rfl)).1 h
  exact ⟨b, rfl, trivial⟩

theorem sh_90 {n : Nat} {r : List D} (h : shD Tryz.prog (n + 2) 90 r) : ∃ x : GMatch, r = cGMatch x ∧ okGMatch x := by
  obtain ⟨a0, b0, rfl, h0, a1, b1, rfl, h1, a2, b2, rfl, h2, rfl⟩ := shD_st (ti_spec (ti_of (t := 90) rfl)).1 h
  obtain ⟨x0, rfl, k0⟩ := sh_9 h0
  obtain ⟨x1, rfl, k1⟩ := sh_9 h1
  obtain ⟨x2, rfl, k2⟩ := sh_4 h2
  exact ⟨⟨x0, x1, x2⟩, rfl, k0, k1, k2⟩

theorem sh_23 {n : Nat} {r : List D} (h : shD Tryz.prog (n + 3) 23 r) : ∃ x : (List GMatch), r = (cL cGMatch) x ∧ (okL okGMatch) x := by
  obtain ⟨rows, rfl, hl, hr⟩ := shD_sl (ti_spec (ti_of (t := 23) rfl)).1 h
  obtain ⟨l, rfl, hk⟩ := rows_ok (fun r hr => sh_90 hr) hr
  exact ⟨l, rfl, by simpa using hl, hk⟩

theorem sh_25 {n : Nat} {r : List D} (h : shD Tryz.prog (n + 4) 25 r) : ∃ x : GSel, r = cGSel x ∧ okGSel x := by
  obtain ⟨a0, b0, rfl, h0, a1, b1, rfl, h1, rfl⟩ := shD_st (ti_spec (ti_of (t := 25) rfl)).1 h
  obtain ⟨x0, rfl, k0⟩ := sh_9 h0
  obtain ⟨x1, rfl, k1⟩ := sh_23 h1
  exact ⟨⟨x0, x1⟩, rfl, k0, k1⟩

theorem sh_27 {n : Nat} {r : List D} (h : shD Tryz.prog (n + 5) 27 r) : ∃ x : GExpr, r = cGExpr x ∧ okGExpr x := by
  obtain ⟨a0, b0, rfl, h0, a1, b1, rfl, h1, a2, b2, rfl, h2, rfl⟩ := shD_st (ti_spec (ti_of (t := 27) rfl)).1 h
  obtain ⟨x0, rfl, k0⟩ := sh_25 h0
  obtain ⟨x1, rfl, k1⟩ := sh_3 h1
  obtain ⟨x2, rfl, k2⟩ := sh_3 h2
  exact ⟨⟨x0, x1, x2⟩, rfl, k0, k1, k2⟩

theorem sh_30 {n : Nat} {r : List D} (h : shD Tryz.prog (n + 6) 30 r) : ∃ x : GRule, r = cGRule x ∧ okGRule x := by
  obtain ⟨a0, b0, rfl, h0, a1, b1, rfl, h1, a2, b2, rfl, h2, a3, b3, rfl, h3, a4, b4, rfl, h4, rfl⟩ := shD_st (ti_spec (ti_of (t := 30) rfl)).1 h
  obtain ⟨x0, rfl, k0⟩ := sh_9 h0
  obtain ⟨x1, rfl, k1⟩ := sh_27 h1
  obtain ⟨x2, rfl, k2⟩ := sh_3 h2
  obtain ⟨x3, rfl, k3⟩ := sh_3 h3
  obtain ⟨x4, rfl, k4⟩ := sh_28 h4
  exact ⟨⟨x0, x1, x2, x3, x4⟩, rfl, k0, k1, k2, k3, k4⟩

theorem sh_54 {n : Nat} {r : List D} (h : shD Tryz.prog (n + 7) 54 r) : ∃ x : (List GRule), r = (cL cGRule) x ∧ (okL okGRule) x := by
  obtain ⟨rows, rfl, hl, hr⟩ := shD_sl (ti_spec (ti_of (t := 54) rfl)).1 h
  obtain ⟨l, rfl, hk⟩ := rows_ok (fun r hr => sh_30 hr) hr
  exact ⟨l, rfl, by simpa using hl, hk⟩

theorem sh_56 {n : Nat} {r : List D} (h : shD Tryz.prog (n + 8) 56 r) : ∃ x : GGroup, r = cGGroup x ∧ okGGroup x := by
  obtain ⟨a0, b0, rfl, h0, a1, b1, rfl, h1, a2, b2, rfl, h2, a3, b3, rfl, h3, rfl⟩ := shD_st (ti_spec (ti_of (t := 56) rfl)).1 h
  obtain ⟨x0, rfl, k0⟩ := sh_9 h0
  obtain ⟨x1, rfl, k1⟩ := sh_3 h1
  obtain ⟨x2, rfl, k2⟩ := sh_3 h2
  obtain ⟨x3, rfl, k3⟩ := sh_54 h3
  exact ⟨⟨x0, x1, x2, x3⟩, rfl, k0, k1, k2, k3⟩

theorem sh_81 {n : Nat} {r : List D} (h : shD Tryz.prog (n + 2) 81 r) : ∃ x : GHold, r = cGHold x ∧ okGHold x := by
  obtain ⟨a0, b0, rfl, h0, a1, b1, rfl, h1, a2, b2, rfl, h2, a3, b3, rfl, h3, rfl⟩ := shD_st (ti_spec (ti_of (t := 81) rfl)).1 h
  obtain ⟨x0, rfl, k0⟩ := sh_4 h0
  obtain ⟨x1, rfl, k1⟩ := sh_3 h1
  obtain ⟨x2, rfl, k2⟩ := sh_4 h2
  obtain ⟨x3, rfl, k3⟩ := sh_3 h3
  exact ⟨⟨x0, x1, x2, x3⟩, rfl, k0, k1, k2, k3⟩

theorem sh_83 {n : Nat} {r : List D} (h : shD Tryz.prog (n + 4) 83 r) : ∃ x : GAlert, r = cGAlert x ∧ okGAlert x := by
  obtain ⟨a0, b0, rfl, h0, a1, b1, rfl, h1, a2, b2, rfl, h2, a3, b3, rfl, h3, rfl⟩ := shD_st (ti_spec (ti_of (t := 83) rfl)).1 h
  obtain ⟨x0, rfl, k0⟩ := sh_28 h0
  obtain ⟨x1, rfl, k1⟩ := sh_81 h1
  obtain ⟨x2, rfl, k2⟩ := sh_3 h2
  obtain ⟨x3, rfl, k3⟩ := sh_3 h3
  exact ⟨⟨x0, x1, x2, x3⟩, rfl, k0, k1, k2, k3⟩

theorem sh_69 {n : Nat} {r : List D} (h : shD Tryz.prog (n + 5) 69 r) : ∃ x : (List GAlert), r = (cL cGAlert) x ∧ (okL okGAlert) x := by
  obtain ⟨rows, rfl, hl, hr⟩ := shD_sl (ti_spec (ti_of (t := 69) rfl)).1 h
  obtain ⟨l, rfl, hk⟩ := rows_ok (fun r hr => sh_83 hr) hr
  exact ⟨l, rfl, by simpa using hl, hk⟩

theorem sh_71 {n : Nat} {r : List D} (h : shD Tryz.prog (n + 6) 71 r) : ∃ x : GTable, r = cGTable x ∧ okGTable x := by
  obtain ⟨a0, b0, rfl, h0, a1, b1, rfl, h1, rfl⟩ := shD_st (ti_spec (ti_of (t := 71) rfl)).1 h
  obtain ⟨x0, rfl, k0⟩ := sh_69 h0
  obtain ⟨x1, rfl, k1⟩ := sh_3 h1
  exact ⟨⟨x0, x1⟩, rfl, k0, k1⟩

theorem sh_57 {n : Nat} {r : List D} (h : shD Tryz.prog (n + 7) 57 r) : ∃ x : (List GTable), r = (cL cGTable) x ∧ (okL okGTable) x := by
  obtain ⟨rows, rfl, hl, hr⟩ := shD_sl (ti_spec (ti_of (t := 57) rfl)).1 h
  obtain ⟨l, rfl, hk⟩ := rows_ok (fun r hr => sh_71 hr) hr
  exact ⟨l, rfl, by simpa using hl, hk⟩

theorem open_3 {n : Nat} {ds : List D} (h : shD Tryz.prog (n + 1) 3 ds) : ∃ x : Int, argAV Tryz.prog 3 ds = vI x ∧ (okI .i64) x := by
  obtain ⟨x, rfl, hk⟩ := sh_3 h
  refine ⟨x, ?_, hk⟩
  unfold argAV
  rw [(ti_spec (ti_of (t := 3) rfl)).1]
  rfl

theorem open_22 {n : Nat} {ds : List D} (h : shD Tryz.prog (n + 5) 22 ds) : ∃ x : (List GSeries), argAV Tryz.prog 22 ds = (sl cGSeries) x ∧ (okL okGSeries) x := by
  obtain ⟨x, rfl, hk⟩ := sh_22 h
  refine ⟨x, ?_, hk⟩
  unfold argAV
  rw [(ti_spec (ti_of (t := 22) rfl)).1]
  rfl

theorem open_30 {n : Nat} {ds : List D} (h : shD Tryz.prog (n + 6) 30 ds) : ∃ x : GRule, argAV Tryz.prog 30 ds = (ag cGRule) x ∧ okGRule x := by
  obtain ⟨x, rfl, hk⟩ := sh_30 h
  refine ⟨x, ?_, hk⟩
  unfold argAV
  rw [(ti_spec (ti_of (t := 30) rfl)).1]
  rfl

theorem open_56 {n : Nat} {ds : List D} (h : shD Tryz.prog (n + 8) 56 ds) : ∃ x : GGroup, argAV Tryz.prog 56 ds = (ag cGGroup) x ∧ okGGroup x := by
  obtain ⟨x, rfl, hk⟩ := sh_56 h
  refine ⟨x, ?_, hk⟩
  unfold argAV
  rw [(ti_spec (ti_of (t := 56) rfl)).1]
  rfl

theorem open_57 {n : Nat} {ds : List D} (h : shD Tryz.prog (n + 7) 57 ds) : ∃ x : (List GTable), argAV Tryz.prog 57 ds = (sl cGTable) x ∧ (okL okGTable) x := by
  obtain ⟨x, rfl, hk⟩ := sh_57 h
  refine ⟨x, ?_, hk⟩
  unfold argAV
  rw [(ti_spec (ti_of (t := 57) rfl)).1]
  rfl

theorem open_71 {n : Nat} {ds : List D} (h : shD Tryz.prog (n + 6) 71 ds) : ∃ x : GTable, argAV Tryz.prog 71 ds = (ag cGTable) x ∧ okGTable x := by
  obtain ⟨x, rfl, hk⟩ := sh_71 h
  refine ⟨x, ?_, hk⟩
  unfold argAV
  rw [(ti_spec (ti_of (t := 71) rfl)).1]
  rfl

end Go.Proofs.YtcpjmkbcefmldaaGreatDoor.AM

/- What the listed package variable holds. -/
namespace Go.Proofs.YtcpjmkbcefmldaaGreatDoor.AM
open Go Go.Proofs

theorem laid_mem {P : Program} {w : World} {n : String} {d : DataW Unit} : ∀ {l : List (String × DataW Unit)} {ps : List MemPlace}, DataW.LaidVars P w l ps → (n, d) ∈ l →
    ∃ g t cs fuel p, P.globalNamed n = some g ∧ (P.globals[g]?).map (·.type) = some t ∧ w.var? P n = some cs ∧ DataW.trod (fun _ => ()) P w 0 (fun _ => true) false fuel t cs.toList = some (d, p)
  | [], _, _, h => by cases h
  | (n', d') :: r, ps, h, hm => by
    obtain ⟨g, t, cs, fuel, p, q, h1, h2, h3, h4, h5, _⟩ := h
    rcases List.mem_cons.1 hm with e | hm
    · cases e; exact ⟨g, t, cs, fuel, p, h1, h2, h3, h4⟩
    · exact laid_mem h5 hm
set_option maxRecDepth 20000 in
theorem gl_of {W : World} {laid : List (String × DataW Unit)} (h : laidMet Tryz.prog laid W) (hm : ("watchtower/eval.states", _root_.Go.Proofs.YtcpjmkbcefmldaaGreatDoor.Rows.laid_watchtower_eval_states) ∈ laid) : GlOk (oldImm W) W := by
  obtain ⟨ps, hl, _, _⟩ := h
  obtain ⟨g, t, cs, fuel, p, hg, ht, hv, hd⟩ := laid_mem hl hm
  obtain rfl := Option.some.inj ((show Tryz.prog.globalNamed "watchtower/eval.states" = some 0 by kernel_rfl).symm.trans hg)
  obtain rfl := Option.some.inj ((show (Tryz.prog.globals[0]?).map (·.type) = some 140 by kernel_rfl).symm.trans ht)
  obtain ⟨xs, m, _, ex, hlen, hl, hel⟩ := DataW.trod_array Tryz.underlying140 hd
  have c9 : Tryz.prog.cellsOf 9 = 1 := by kernel_rfl
  have c140 : Tryz.prog.cellsOf 140 = 3 := by kernel_rfl
  rw [c140] at hlen
  have hcell := World.var?_cell hg hv
  obtain ⟨l⟩ := cs
  match l, hlen with
  | [a, b, c], _ =>
    match xs, hl with
    | [x0, x1, x2], _ =>
      have e3 := (DataW.agg.inj (Prod.mk.inj ex).1)
      simp only [List.map_cons, List.map_nil, List.cons.injEq, and_true] at e3
      have k0 := hel 0 (by omega); have k1 := hel 1 (by omega); have k2 := hel 2 (by omega)
      rw [c9] at k0 k1 k2
      obtain ⟨z0, a0, b0, _⟩ := DataW.trod_string Tryz.underlying9 k0
      obtain ⟨z1, a1, b1, _⟩ := DataW.trod_string Tryz.underlying9 k1
      obtain ⟨z2, a2, b2, _⟩ := DataW.trod_string Tryz.underlying9 k2
      have hb : ∀ {s : ByteArray} {l : List UInt8}, s.data.toList = l → s = ⟨⟨l⟩⟩ := fun {s l} h => by
        obtain ⟨⟨x⟩⟩ := s; cases h; rfl
      have hlt : 0 < W.heap.size := by
        have := hcell 0
        exact cell_lt (a := ⟨0, 0, none⟩) this
      simp at a0 a1 a2 b0 b1 b2
      intro e he
      obtain rfl : e = (0, 1, [[.v (.string ⟨⟨[]⟩⟩)], [.v (.string ⟨⟨[112, 101, 110, 100, 105, 110, 103]⟩⟩)], [.v (.string ⟨⟨[102, 105, 114, 105, 110, 103]⟩⟩)]]) := by simpa [seatGl] using he
      have q0 := hb (s := z0) (l := []) (by rw [b0] at e3; have := e3.1; simpa using this.symm)
      have q1 := hb (s := z1) (l := [112, 101, 110, 100, 105, 110, 103]) (by rw [b1] at e3; have := e3.2.1; simpa using this.symm)
      have q2 := hb (s := z2) (l := [102, 105, 114, 105, 110, 103]) (by rw [b2] at e3; have := e3.2.2; simpa using this.symm)
      subst a0 a1 a2 q0 q1 q2
      refine ⟨fun i r hr => ?_, fun i j r d hr hd => ?_⟩
      · match i, hr with
        | 0, hr => cases hr; rfl
        | 1, hr => cases hr; rfl
        | 2, hr => cases hr; rfl
        | i + 3, hr => simp at hr
      · match i, hr with
        | 0, hr => cases hr; match j, hd with
          | 0, hd => cases hd; exact ⟨_, hcell 0, hlt, .v _ rfl⟩
          | j + 1, hd => simp at hd
        | 1, hr => cases hr; match j, hd with
          | 0, hd => cases hd; exact ⟨_, hcell 1, hlt, .v _ rfl⟩
          | j + 1, hd => simp at hd
        | 2, hr => cases hr; match j, hd with
          | 0, hd => cases hd; exact ⟨_, hcell 2, hlt, .v _ rfl⟩
          | j + 1, hd => simp at hd
        | i + 3, hr => simp at hr
end Go.Proofs.YtcpjmkbcefmldaaGreatDoor.AM
