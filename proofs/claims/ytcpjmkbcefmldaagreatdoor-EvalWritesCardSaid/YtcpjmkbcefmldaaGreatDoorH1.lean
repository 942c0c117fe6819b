/- A part of the proof: Sa, Sc, Sd, Se, Sg, Sk, Si, Sf, Sj, Sb. -/
import Derived.Test.YtcpjmkbcefmldaaGreatDoorMd
import Derived.RangeFuncFrom
import Derived.OwnWalkIn
import Derived.TacticsInMore
import Derived.LoopNIn
import Derived.LoopIn
import Derived.BigFrameIn
import Derived.Shelf.Abstract
import Derived.Test.YtcpjmkbcefmldaaGreatDoorRb
import Derived.Deep.RegionLaw
import Derived.Test.YtcpjmkbcefmldaaGreatDoorX2
import Derived.Lib.SliceRun
import Derived.Test.YtcpjmkbcefmldaaGreatDoorA3
set_option linter.all false
/- series.backwards: the last sample first. -/
namespace Go.Proofs.YtcpjmkbcefmldaaGreatDoor.AM
open Go Go.RowKit Go.Proofs
attribute [local go_sem] Oper.semAt_some

def SampAt (W : World) (a : Option Addr) (S : List GSample) : Prop :=
  S = [] ∨ ∃ b st, a = some ⟨b, st, none⟩ ∧ ∀ j x, S[j]? = some x → W.cell? ⟨b, st + j * 2, none⟩ = some (.int .i64 x.T) ∧ W.cell? ⟨b, st + j * 2 + 1, none⟩ = some (.int .i64 x.V)
def smV (x : GSample) : Value := .agg #[.int .i64 x.T, .int .i64 x.V]
def downM (v : Value) : Nat := match v with | .int _ i => (i + 1).toNat | _ => 0

set_option maxRecDepth 100000 in
set_option maxHeartbeats 2000000 in
theorem back_in (F : Fence) (n : Nat) (h89 : F.fn 89) (hro : F.round = none) (hn : 1 ≤ n) (l B c : Nat) (a : Option Addr) (S : List GSample) (hS : S.length ≤ 1000000) (J Jx : List GSample → World → Prop)
    (hrd : ∀ pre W, J pre W → W.cell? ⟨B, 0, none⟩ = some (.slice a S.length c) ∧ SampAt W a S)
    (hY : ∀ pre x W, J pre W → (pre ++ [x]) <+: S.reverse → YieldAt F (n - 1) Tryz.prog l #[smV x] W fun e W' =>
      (e = .returned (.bool true) ∧ J (pre ++ [x]) W') ∨ (e = .returned (.bool false) ∧ Jx (pre ++ [x]) W'))
    (W : World) (h0 : J [] W) :
    CallsIn F n Tryz.prog 89 #[.func (.yield l) #[] #[], .pointer (some ⟨B, 0, none⟩)] W fun e W' => (∃ v, e = .returned v) ∧
      (J S.reverse W' ∨ (∃ pre, pre <+: S.reverse ∧ Jx pre W')) := by
  refine callsIn_of_wp Tryz.func89 rfl h89 ?_ hro
  have hb0 := (hrd [] W h0).1
  have t75 := Tryz.underlying75; have a75 := Tryz.isAgg75; have z75 := Tryz.sizeOf75; have t39 := Tryz.underlying39; have a39 := Tryz.isAgg39; have z39 := Tryz.sizeOf39; have t3 := Tryz.underlying3; have a3 := Tryz.isAgg3; have z3 := Tryz.sizeOf3
  simp only [Tryz.ntmps89, List.size_toArray, List.length_cons, List.length_nil, Nat.reduceAdd, Nat.reduceSub, Array.replicate_succ, Array.replicate_zero, List.push_toArray, List.append_toArray, List.nil_append, List.cons_append]
  have hlen : (S.length : Int) ≤ 1000000 := by omega
  have hw0 : wrap64 ((S.length : Int) - 1) = (S.length : Int) - 1 := by unfold wrap64; omega
  gi_wp2
  gi_loopw [3] (fun p wr => ∃ k : Nat, p = .int .i64 ((S.length : Int) - 1 - (k : Int)) ∧ k ≤ S.length ∧ J (S.reverse.take k) wr)
    (fun p wr => downM p)
  case atStart =>
    exact ⟨0, by simp, Nat.zero_le _, by simpa using h0⟩
  case round =>
    obtain ⟨k, rfl, hk, hJk⟩ := hrel
    obtain ⟨hb, hsa⟩ := hrd _ _ hJk
    rcases Nat.lt_or_ge k S.length with hlt | hge
    · have hix : S.reverse[k]? = some S[S.length - 1 - k] := by rw [List.getElem?_reverse hlt, List.getElem?_eq_getElem]
      have hpre : S.reverse.take k ++ [S[S.length - 1 - k]] = S.reverse.take (k + 1) := by
        rw [List.take_add_one, hix]; rfl
      obtain ⟨x, hx⟩ : ∃ x, x = S[S.length - 1 - k] := ⟨_, rfl⟩
      rw [← hx] at hpre
      rcases hsa with rfl | ⟨b, st, rfl, hcells⟩
      · simp at hlt
      obtain ⟨hT, hV⟩ := hcells (S.length - 1 - k) x (by rw [hx, List.getElem?_eq_getElem])
      have hge0 : (0 : Int) ≤ (S.length : Int) - 1 - (k : Int) := by omega
      have hlt1 : (S.length : Int) - 1 - (k : Int) < (S.length : Int) := by omega
      have htn : ((S.length : Int) - 1 - (k : Int)).toNat = S.length - 1 - k := by omega
      have hw1 : wrap64 ((S.length : Int) - 1 - (k : Int) - 1) = (S.length : Int) - 1 - ((k + 1 : Nat) : Int) := by unfold wrap64; omega
      obtain ⟨fn, tmps, assign, body, hy, hR⟩ := hY _ x wr hJk (by rw [hpre]; exact List.take_prefix _ _)
      unfold smV at hy
      clear hx hix hcells
      gi_wp2
      refine hR.mono ?_
      rintro e W3 (⟨rfl, hJ3⟩ | ⟨rfl, hJx3⟩)
      · gi_wp2
        go_roundw
        case rel => exact ⟨k + 1, by congr 1; omega, by omega, by rw [← hpre]; exact hJ3⟩
        case measure => show (_ + 1 : Int).toNat < (_ + 1 : Int).toNat; omega
      · gi_wp2
        refine bodyPost_ret (results_none rfl _ _ _) rfl ?_
        exact ⟨⟨_, rfl⟩, .inr ⟨_, by rw [hpre]; exact List.take_prefix _ _, hJx3⟩⟩
    · have hke : k = S.length := by omega
      subst hke
      have hneg : ¬ (0 : Int) ≤ (S.length : Int) - 1 - (S.length : Int) := by omega
      gi_wp2
      go_end0
      exact ⟨⟨_, rfl⟩, .inl (by rwa [List.take_of_length_le (by simp)] at hJk)⟩

set_option maxRecDepth 100000 in
set_option maxHeartbeats 1000000 in
theorem backwards_in (F : Fence) (n : Nat) (h71 : F.fn 71) (hro : F.round = none) (a : Option Addr) (k c : Nat) (w : World) :
    CallsIn F n Tryz.prog 71 #[.slice a k c] w fun e w' => e = .returned (.func (.func 89) #[] #[.pointer (some ⟨w.heap.size, 0, none⟩)]) ∧ w' = w.alloc (.cells #[.slice a k c] 75) := by
  refine callsIn_of_wp Tryz.func71 rfl h71 ?_ hro
  have t75 := Tryz.underlying75; have a75 := Tryz.isAgg75; have z75 := Tryz.sizeOf75
  simp only [Tryz.ntmps71, List.size_toArray, List.length_cons, List.length_nil, Nat.reduceAdd, Nat.reduceSub, Array.replicate_succ, Array.replicate_zero, List.push_toArray, List.append_toArray, List.nil_append, List.cons_append]
  gi_wp2
  go_ret
  exact ⟨rfl, rfl⟩
end Go.Proofs.YtcpjmkbcefmldaaGreatDoor.AM

/- A range over a sequence of samples, the last one first: the statement. -/
namespace Go.Proofs.YtcpjmkbcefmldaaGreatDoor.AM
open Go Go.RowKit Go.Proofs
attribute [local go_sem] Oper.semAt_some

def Kept2 (l : Nat) (A B : World) : Prop := B.heap[l]? = A.heap[l]? ∧ B.heap[l - 1]? = A.heap[l - 1]?
def rEnd (l : Nat) (I : List GSample → World → Prop) (Ix : Code → List GSample → World → Prop) (pre : List GSample) (W : World) : Exit → Act → World → Prop
  | .normal, _, W' => Kept2 l W W' ∧ I pre W'
  | .ret, _, W' => Kept2 l W W' ∧ Ix .ret pre W'
  | .exit id, _, W' => Kept2 l W W' ∧ Ix (.exit id) pre W'
  | .goto t, _, W' => Kept2 l W W' ∧ Ix (.goto t) pre W'
  | .panic _, _, _ => False
  | .outgrown, _, _ => False

theorem range_back {F : Fence} {n : Nat} {g : Operand} {ps : Tmp} {assign body : Code} {Q : Exit → Act → World → Prop} {a : Act} {w : World} (hro : F.round = none) (h1 : 2 ≤ n) (h89 : F.fn 89) {B c : Nat} {ad : Option Addr} {S : List GSample}
    (hg : a.eval g = .func (.func 89) #[] #[.pointer (some ⟨B, 0, none⟩)]) (hS : S.length ≤ 1000000) (I : List GSample → World → Prop) (Ix : Code → List GSample → World → Prop)
    (hI : ∀ pre W l o, w.heap.size ≤ l → I pre W → I pre (W.putObj l o)) (hIx : ∀ cd pre W l o, w.heap.size ≤ l → Ix cd pre W → Ix cd pre (W.putObj l o))
    (hrd : ∀ pre W, I pre W → W.cell? ⟨B, 0, none⟩ = some (.slice ad S.length c) ∧ SampAt W ad S)
    (h0 : ∀ o o', I [] ((w.alloc o).alloc o'))
    (hround : ∀ (l : Nat) (pre : List GSample) (x : GSample) (W : World) (o : Go.Obj), l = w.heap.size + 1 → I pre W → W.heap[l]? = some o → pre ++ [x] <+: S.reverse →
      assign.wpIn (F.inRound l) (n - 1 - 1) Tryz.prog (Exit.then (fun a1 W1 => Kept2 l W W1 ∧ ∀ o', body.wpIn (F.inRound l) (n - 1 - 1) Tryz.prog (rEnd l I Ix (pre ++ [x]) (W1.putObj l o')) a1 (W1.putObj l o')) (fun _ _ _ => False)) { tmps := a.tmps.setIfInBounds ps (smV x), defers := [] } W)
    (hdone : ∀ (D : Nat) (W : World), w.heap.size ≤ D → I S.reverse W → W.heap[D]? = some (.deferred (some [])) → Q .normal { a with defers := { target := .collected D, args := #[] } :: a.defers } W)
    (hstop : ∀ (D : Nat) (cd : Code) (pre : List GSample) (W : World), w.heap.size ≤ D → pre <+: S.reverse → Ix cd pre W → W.heap[D]? = some (.deferred (some [])) → cd.wpIn F n Tryz.prog Q { a with defers := { target := .collected D, args := #[] } :: a.defers } W) :
    (Code.rangeFunc g #[ps] assign body).wpIn F n Tryz.prog Q a w := by
  refine wpIn_rangeFunc ?_
  intro fn hfn
  rw [hro]
  obtain ⟨rec, hrec⟩ : ∃ rec : LoopState → Option Code → Loop, rec = fun st pe => { state := st, pending := pe, fn, tmps := a.tmps, params := #[ps], assign, body, defers := w.heap.size } := ⟨_, rfl⟩
  obtain ⟨W1, hW1⟩ : ∃ W1, (w.alloc (.deferred (some []))).alloc (.loop (rec .ready none)) = W1 := ⟨_, rfl⟩
  have hL1 : W1.heap[w.heap.size + 1]? = some (.loop (rec .ready none)) := by
    rw [← hW1]; have := World.alloc_heap_new (w.alloc (.deferred (some []))) (.loop (rec .ready none)); rwa [World.size_alloc] at this
  have hK1 : W1.heap[w.heap.size]? = some (.deferred (some [])) := by
    rw [← hW1]; exact (Below.heap_alloc _ _ _ (by simp)).trans (World.alloc_heap_new w _)
  have hI1 : I [] W1 := by rw [← hW1]; exact h0 _ _
  refine ⟨w.heap.size + 1, [{ target := .collected w.heap.size, args := #[] }], W1, { target := .fn (.func 89) #[.pointer (some ⟨B, 0, none⟩)], args := #[.func (.yield (w.heap.size + 1)) #[] #[]] }, W1, 89,
    #[.func (.yield (w.heap.size + 1)) #[] #[], .pointer (some ⟨B, 0, none⟩)], W1, ?_, ?_, ?_, ?_, fun _ => by omega, ?_⟩
  · rw [← hW1, hrec]; exact run_enterLoop_outer _ _ _ _ _
  · simp only [resolve, hg]
    simp [go_sem]
  · intro f' hf'; simp [Target.leads] at hf'; subst hf'; exact h89
  · simp [invoke, go_sem, Go.Proofs.enters_of Tryz.func89 (by kernel_rfl) rfl]
  · refine (back_in F (n - 1) h89 hro (by omega) (w.heap.size + 1) B c ad S hS
      (fun pre W => I pre W ∧ W.heap[w.heap.size + 1]? = some (.loop (rec .ready none)) ∧ W.heap[w.heap.size]? = some (.deferred (some [])))
      (fun pre W => ∃ cd, Ix cd pre W ∧ W.heap[w.heap.size + 1]? = some (.loop (rec .done (some cd))) ∧ W.heap[w.heap.size]? = some (.deferred (some [])))
      (fun pre W h => hrd pre W h.1) ?_ W1 ⟨hI1, hL1, hK1⟩).mono ?_
    · rintro pre x W ⟨hi, hl, hk⟩ hpre
      have hy := run_yield (P := Tryz.prog) (args := #[smV x]) hl (by rw [hrec]; rfl)
      rw [hrec] at hy
      simp only [List.zip_toArray, List.zip_cons_cons, List.zip_nil_right, List.foldl_toArray', List.foldl_cons, List.foldl_nil] at hy
      refine ⟨fn, _, assign, body, hy, roundIn_of_wpIn hfn ?_⟩
      refine wpIn_mono (hround _ pre x W _ rfl hi hl hpre) ?_
      rintro e a1 W2 hp
      cases e with
      | normal =>
        obtain ⟨hkp, hp⟩ := hp
        have hl2 : W2.heap[w.heap.size + 1]? = some (.loop (rec .ready none)) := hkp.1.trans hl
        have hk2 : W2.heap[w.heap.size]? = some (.deferred (some [])) := hkp.2.trans hk
        have hlt : w.heap.size + 1 < W2.heap.size := (Array.getElem?_eq_some_iff.1 hl2).1
        refine ⟨_, run_beginRound hl2 (by rw [hrec]), ?_⟩
        have hl3 : (W2.putObj (w.heap.size + 1) (.loop { rec .ready none with state := .busy })).heap[w.heap.size + 1]? = some (.loop { rec .ready none with state := .busy }) := World.putObj_heap_same hlt
        have hk3 : (W2.putObj (w.heap.size + 1) (.loop { rec .ready none with state := .busy })).heap[w.heap.size]? = some (.deferred (some [])) := (World.putObj_heap_other (by omega)).trans hk2
        refine wpIn_mono (hp _) ?_
        have fin : ∀ (jump : Option Code) (W4 : World), Kept2 (w.heap.size + 1) (W2.putObj (w.heap.size + 1) (.loop { rec .ready none with state := .busy })) W4 →
            (Instr.endRound (w.heap.size + 1) jump).run Tryz.prog W4 = .ok (.bool jump.isNone) (W4.putObj (w.heap.size + 1) (.loop (rec (if jump.isNone then .ready else .done) jump))) ∧
            (W4.putObj (w.heap.size + 1) (.loop (rec (if jump.isNone then .ready else .done) jump))).heap[w.heap.size + 1]? = some (.loop (rec (if jump.isNone then .ready else .done) jump)) ∧
            (W4.putObj (w.heap.size + 1) (.loop (rec (if jump.isNone then .ready else .done) jump))).heap[w.heap.size]? = some (.deferred (some [])) := fun jump W4 hk4 => by
          have hl4 := hk4.1.trans hl3
          have hd4 : W4.heap[w.heap.size]? = some (.deferred (some [])) := hk4.2.trans hk3
          have := run_endRound (P := Tryz.prog) jump hl4
          rw [hrec] at this ⊢
          exact ⟨this, World.putObj_heap_same (Array.getElem?_eq_some_iff.1 hl4).1, (World.putObj_heap_other (by omega)).trans hd4⟩
        rintro e a3 W4 hq
        cases e with
        | normal =>
          obtain ⟨hk4, hi4⟩ := hq
          obtain ⟨f1, f2, f3⟩ := fin none W4 hk4
          exact ⟨_, _, f1, .inl ⟨rfl, hI _ _ _ _ (by omega) hi4, f2, f3⟩⟩
        | ret =>
          obtain ⟨hk4, hi4⟩ := hq
          obtain ⟨f1, f2, f3⟩ := fin (some .ret) W4 hk4
          exact ⟨_, _, f1, .inr ⟨rfl, .ret, hIx _ _ _ _ _ (by omega) hi4, f2, f3⟩⟩
        | exit id =>
          obtain ⟨hk4, hi4⟩ := hq
          obtain ⟨f1, f2, f3⟩ := fin (some (.exit id)) W4 hk4
          exact ⟨_, _, f1, .inr ⟨rfl, .exit id, hIx _ _ _ _ _ (by omega) hi4, f2, f3⟩⟩
        | goto t =>
          obtain ⟨hk4, hi4⟩ := hq
          obtain ⟨f1, f2, f3⟩ := fin (some (.goto t)) W4 hk4
          exact ⟨_, _, f1, .inr ⟨rfl, .goto t, hIx _ _ _ _ _ (by omega) hi4, f2, f3⟩⟩
        | panic ch => exact hq.elim
        | outgrown => exact hq.elim
      | _ => exact hp.elim
    · rintro e W2 ⟨⟨v, rfl⟩, (⟨hi, hl, hk⟩ | ⟨pre, hpre, cd, hi, hl, hk⟩)⟩
      · refine ⟨none, _, by have := run_endLoop (P := Tryz.prog) hl (by rw [hrec]; simp); rw [hrec] at this; exact this, ?_⟩
        exact hdone _ _ (Nat.le_refl _) (hI _ _ _ _ (by omega) hi) ((World.putObj_heap_other (by omega)).trans hk)
      · refine ⟨some cd, _, by have := run_endLoop (P := Tryz.prog) hl (by rw [hrec]; simp); rw [hrec] at this; exact this, ?_⟩
        exact hstop _ cd pre _ (Nat.le_refl _) hpre (hIx _ _ _ _ _ (by omega) hi) ((World.putObj_heap_other (by omega)).trans hk)
end Go.Proofs.YtcpjmkbcefmldaaGreatDoor.AM

/- series.At, by hand. -/
namespace Go.Proofs.YtcpjmkbcefmldaaGreatDoor.AM
open Go Go.RowKit Go.Proofs
attribute [local go_sem] Oper.semAt_some

theorem alloc_get (W : World) (o : Go.Obj) (k : Nat) : (W.alloc o).heap[k]? = if k = W.heap.size then some o else W.heap[k]? := by
  show (W.heap.push o)[k]? = _
  rw [Array.getElem?_push]
theorem atR_skip {t win : Int} : ∀ {pre r : List GSample}, (∀ y ∈ pre, t < y.T) → atR t win (pre ++ r) = atR t win r
  | [], _, _ => rfl
  | y :: pre, r, h => by
    rw [List.cons_append, atR, if_pos (h y List.mem_cons_self)]
    exact atR_skip fun z hz => h z (List.mem_cons_of_mem _ hz)
theorem wI_wrap64 (x : Int) : wI x = wrap64 x := by
  unfold wI wrap64; rw [IntKind.wrap_i64]; try omega
structure W3 (w w' : World) : Prop where
  b : Below w.heap.size w w'
  d : w.drawn ≤ w'.drawn
theorem W3.refl (w : World) : W3 w w := ⟨Below.refl _ _, Nat.le_refl _⟩
theorem W3.trans {a b c : World} (h : W3 a b) (k : W3 b c) : W3 a c := ⟨h.b.trans (k.b.mono h.b.size), Nat.le_trans h.d k.d⟩

theorem at_end {w W : World} {act : Act} {D : Nat} {T V : Int} {b : Bool} {R : Ending → World → Prop} (hR : ∀ W', W3 w W' → R (.returned (.tuple #[.agg #[.int .i64 T, .int .i64 V], .bool b])) W')
    (hD : w.heap.size + 1 + 1 + 1 < D) (ht6 : act.eval (.tmp 6) = .pointer (some ⟨w.heap.size + 1 + 1, 0, none⟩)) (ht7 : act.eval (.tmp 7) = .pointer (some ⟨w.heap.size + 1 + 1 + 1, 0, none⟩)) (hdef : act.defers = [{ target := .collected D, args := #[] }])
    (hB : Below w.heap.size w W) (hd : w.drawn ≤ W.drawn) (k1 : W.cell? ⟨w.heap.size + 1 + 1, 0, none⟩ = some (.int .i64 T)) (k2 : W.cell? ⟨w.heap.size + 1 + 1, 1, none⟩ = some (.int .i64 V)) (k3 : W.cell? ⟨w.heap.size + 1 + 1 + 1, 0, none⟩ = some (.bool b))
    (hK : W.heap[D]? = some (.deferred (some []))) : bodyPostM Fence.wide 3 Tryz.prog Tryz.f47 R .ret act W := by
  obtain ⟨tm, df⟩ := act
  simp only at hdef
  subst hdef
  have t39 := Tryz.underlying39; have a39 := Tryz.isAgg39; have z39 := Tryz.sizeOf39; have t4 := Tryz.underlying4; have a4 := Tryz.isAgg4; have z4 := Tryz.sizeOf4
  refine ⟨by simp, .inl ⟨_, _, rfl, run_takeDeferred hK, ?_⟩⟩
  have e1 : (W.putObj D (.deferred none)).cell? ⟨w.heap.size + 1 + 1, 0, none⟩ = some (.int .i64 T) := (World.cell?_of_block (World.putObj_heap_other (by simp; omega))).trans k1
  have e2 : (W.putObj D (.deferred none)).cell? ⟨w.heap.size + 1 + 1, 1, none⟩ = some (.int .i64 V) := (World.cell?_of_block (World.putObj_heap_other (by simp; omega))).trans k2
  have e3 : (W.putObj D (.deferred none)).cell? ⟨w.heap.size + 1 + 1 + 1, 0, none⟩ = some (.bool b) := (World.cell?_of_block (World.putObj_heap_other (by simp; omega))).trans k3
  refine ⟨.tuple #[.agg #[.int .i64 T, .int .i64 V], .bool b], ?_, hR _ ⟨hB.trans ⟨rfl, rfl, rfl, by simp, fun k hk => World.putObj_heap_other (by omega)⟩, hd⟩⟩
  simp only [Act.eval, Array.getD_eq_getD_getElem?] at ht6 ht7
  simp [results, Tryz.f47, go_sem, ht6, ht7, e1, e2, e3]

set_option maxRecDepth 100000 in
set_option maxHeartbeats 2000000 in
theorem At_in (v : Value) (t win : Int) (S : List GSample) (hS : S.length ≤ 1000000) (w : World)
    (hcount : ∀ W, W3 w W → Calls Tryz.prog 72 #[v] W fun e W' => ∃ a c, e = .returned (.slice a S.length c) ∧ SampAt W' a S ∧ (∀ b st, a = some ⟨b, st, none⟩ → S ≠ [] → b < W'.heap.size) ∧ W3 W W') :
    CallsIn Fence.wide 3 Tryz.prog 47 #[v, .int .i64 t, .int .i64 win] w fun e w' => e = .returned (.tuple #[smV (atR t win S.reverse).1, .bool (atR t win S.reverse).2]) ∧ W3 w w' := by
  refine callsIn_of_wp_marks Tryz.func47 rfl trivial ?_ rfl
  have t75 := Tryz.underlying75; have a75 := Tryz.isAgg75; have z75 := Tryz.sizeOf75; have t39 := Tryz.underlying39; have a39 := Tryz.isAgg39; have z39 := Tryz.sizeOf39; have t3 := Tryz.underlying3; have a3 := Tryz.isAgg3; have z3 := Tryz.sizeOf3; have t4 := Tryz.underlying4; have a4 := Tryz.isAgg4; have z4 := Tryz.sizeOf4
  simp only [Tryz.ntmps47, List.size_toArray, List.length_cons, List.length_nil, Nat.reduceAdd, Nat.reduceSub, Array.replicate_succ, Array.replicate_zero, List.push_toArray, List.append_toArray, List.nil_append, List.cons_append]
  gi_wp2
  obtain ⟨w4, hw4⟩ : ∃ w4, w4 = (((w.alloc (.cells #[.int .i64 t] 3)).alloc (.cells #[.int .i64 win] 3)).alloc (.cells #[.int .i64 0, .int .i64 0] 39)).alloc (.cells #[.bool false] 4) := ⟨_, rfl⟩
  have hs4 : w4.heap.size = w.heap.size + 4 := by rw [hw4]; simp
  have hb4 : Below w.heap.size w w4 := by
    rw [hw4]
    exact ((((Below.refl _ w).alloc (Nat.le_refl _) _).alloc (by simp) _).alloc (by simp; omega) _).alloc (by simp; omega) _
  have hx0 : w4.heap[w.heap.size]? = some (.cells #[.int .i64 t] 3 (0, 0)) := by rw [hw4]; simp only [alloc_get, World.size_alloc]; (repeat' split) <;> first | rfl | (exfalso; omega) | (exfalso; simp_all; done)
  have hx1 : w4.heap[w.heap.size + 1]? = some (.cells #[.int .i64 win] 3 (0, 0)) := by rw [hw4]; simp only [alloc_get, World.size_alloc]; (repeat' split) <;> first | rfl | (exfalso; omega) | (exfalso; simp_all; done)
  have hx2 : w4.heap[w.heap.size + 1 + 1]? = some (.cells #[.int .i64 0, .int .i64 0] 39 (0, 0)) := by rw [hw4]; simp only [alloc_get, World.size_alloc]; (repeat' split) <;> first | rfl | (exfalso; omega) | (exfalso; simp_all; done)
  have hx3 : w4.heap[w.heap.size + 1 + 1 + 1]? = some (.cells #[.bool false] 4 (0, 0)) := by rw [hw4]; simp only [alloc_get, World.size_alloc]; (repeat' split) <;> first | rfl | (exfalso; omega) | (exfalso; simp_all; done)
  have hd4 : w4.drawn = w.drawn := by rw [hw4]; rfl
  have hw34 : W3 w w4 := ⟨hb4, by omega⟩
  rw [← hw4]
  refine ⟨trivial, (callsIn_wide.2 (hcount _ hw34)).mono ?_⟩
  rintro e W5 ⟨a, c, rfl, hsa, hab, h45⟩
  have h5 : ∀ k o, k < w4.heap.size → w4.heap[k]? = some o → W5.heap[k]? = some o := fun k o hk ho => (h45.b.block k hk).trans ho
  have hy0 := h5 _ _ (by omega) hx0
  have hy1 := h5 _ _ (by omega) hx1
  have hy2 := h5 _ _ (by omega) hx2
  have hy3 := h5 _ _ (by omega) hx3
  have hs5 := h45.b.size
  have hw5 : W3 w W5 := hw34.trans h45
  clear h5 hx0 hx1 hx2 hx3 hw34 h45 hcount hb4 hd4
  gi_wp2
  refine ⟨trivial, (backwards_in Fence.wide 2 trivial rfl a S.length c W5).mono ?_⟩
  rintro e W6 ⟨rfl, rfl⟩
  gi_wp2
  refine range_back (F := Fence.wide) (n := 3) rfl (by omega) trivial (B := W5.heap.size) (c := c) (ad := a) (S := S) rfl hS
    (fun pre W => (∀ y ∈ pre, t < y.T) ∧ Below (W5.heap.size + 1) (W5.alloc (.cells #[.slice a S.length c] 75)) W ∧ W5.drawn ≤ W.drawn)
    (fun cd pre W => Below w.heap.size w W ∧ w.drawn ≤ W.drawn ∧ ((cd = .ret ∧ ∃ x, W.cell? ⟨w.heap.size + 1 + 1, 0, none⟩ = some (.int .i64 x.T) ∧ W.cell? ⟨w.heap.size + 1 + 1, 1, none⟩ = some (.int .i64 x.V) ∧ W.cell? ⟨w.heap.size + 1 + 1 + 1, 0, none⟩ = some (.bool true) ∧ ∀ tl, atR t win (pre ++ tl) = (x, true)) ∨
      (cd = .exit 0 ∧ W.heap[w.heap.size + 1 + 1]? = some (.cells #[.int .i64 0, .int .i64 0] 39 (0, 0)) ∧ W.heap[w.heap.size + 1 + 1 + 1]? = some (.cells #[.bool false] 4 (0, 0)) ∧ ∀ tl, atR t win (pre ++ tl) = (⟨0, 0⟩, false))))
    ?hI ?hIx ?hrd ?h0 ?hround ?hdone ?hstop
  case hround =>
    rintro l pre x W o hl ⟨hne, hB, hdr⟩ hlo hpre
    simp only [World.size_alloc] at hl
    have hk : ∀ k, k < W5.heap.size → W.heap[k]? = W5.heap[k]? := fun k hk => (hB.block k (by omega)).trans (Below.heap_alloc _ _ k hk)
    have hsW := hB.size
    simp only [World.size_alloc] at hsW
    have hlW := (Array.getElem?_eq_some_iff.1 hlo).1
    unfold smV
    gi_wp2
    refine ⟨⟨Below.heap_alloc _ _ _ (by omega), Below.heap_alloc _ _ _ (by omega)⟩, fun o' => ?_⟩
    obtain ⟨W2, hW2⟩ : ∃ W2, W2 = (W.alloc (.cells #[.int .i64 x.T, .int .i64 x.V] 39)).putObj l o' := ⟨_, rfl⟩
    have hk2 : ∀ k, k < W5.heap.size → W2.heap[k]? = W5.heap[k]? := fun k hk' => by
      rw [hW2]; exact (World.putObj_heap_other (by omega)).trans ((Below.heap_alloc _ _ k (by omega)).trans (hk k hk'))
    have hz0 := (hk2 _ (by omega)).trans hy0
    have hz1 := (hk2 _ (by omega)).trans hy1
    have hz2 := (hk2 _ (by omega)).trans hy2
    have hz3 := (hk2 _ (by omega)).trans hy3
    have hzN : W2.heap[W.heap.size]? = some (.cells #[.int .i64 x.T, .int .i64 x.V] 39 (0, 0)) := by
      rw [hW2]; exact (World.putObj_heap_other (by omega)).trans (World.alloc_heap_new W _)
    have hB2 : Below w.heap.size w W2 := by
      have h1 : Below w.heap.size w W := hw5.b.trans ((((Below.refl _ W5).alloc (by omega) _).trans (hB.mono (by omega))))
      have h2 : Below w.heap.size w (W.alloc (.cells #[.int .i64 x.T, .int .i64 x.V] 39)) := h1.alloc (by omega) _
      rw [hW2]
      exact h2.trans ⟨rfl, rfl, rfl, by simp, fun k hk => World.putObj_heap_other (by omega)⟩
    have hB3 : Below (W5.heap.size + 1) (W5.alloc (.cells #[.slice a S.length c] 75)) W2 := by
      rw [hW2]
      exact (hB.alloc (by omega) _).trans ⟨rfl, rfl, rfl, by simp, fun k hk => World.putObj_heap_other (by omega)⟩
    have hd2 : W2.drawn = W.drawn := by rw [hW2]; rfl
    rw [← hW2]
    have c0 := cell_at hz0 0; have c1 := cell_at hz1 0; have f2 : W2.frozen? ⟨w.heap.size + 1 + 1, 0, none⟩ = false := by simp [World.frozen?, hz2]
    have c20 := cell_at hz2 0; have c21 := cell_at hz2 1; have c3 := cell_at hz3 0
    have f21 : W2.frozen? ⟨w.heap.size + 1 + 1, 1, none⟩ = false := by simp [World.frozen?, hz2]
    have f3 : W2.frozen? ⟨w.heap.size + 1 + 1 + 1, 0, none⟩ = false := by simp [World.frozen?, hz3]
    have cN0 := cell_at hzN 0; have cN1 := cell_at hzN 1
    simp at c0 c1 c20 c21 c3 cN0 cN1
    have hdw := hw5.d
    clear hlo hzN hk hk2 hW2 hB hy0 hy1 hy2 hy3
    gi_wp2
    · rename_i h
      exact ⟨⟨rfl, rfl⟩, fun y hy => by
        rcases List.mem_append.1 hy with hy | hy
        · exact hne y hy
        · simp only [List.mem_singleton] at hy; subst hy; exact h, hB3, by omega⟩
    · rename_i h1 h2
      have hat : ∀ tl, atR t win (pre ++ [x] ++ tl) = (x, true) := fun tl => by
        rw [List.append_assoc, atR_skip hne, List.singleton_append, atR, if_neg (by omega), wI_wrap64, if_pos h2]
      refine ⟨⟨?_, ?_⟩, ((hB2.setCell (by simp; omega) _).setCell (by simp; omega) _).setCell (by simp; omega) _, by simp; omega, .inl ⟨rfl, x, ?_, ?_, ?_, hat⟩⟩
      · rw [Below.heap_setCell _ _ _ _ (by simp; omega), Below.heap_setCell _ _ _ _ (by simp; omega), Below.heap_setCell _ _ _ _ (by simp; omega)]
      · rw [Below.heap_setCell _ _ _ _ (by simp; omega), Below.heap_setCell _ _ _ _ (by simp; omega), Below.heap_setCell _ _ _ _ (by simp; omega)]
      · rw [World.cell?_setCell_other _ _ _ _ (by intro e; injection e; omega), World.cell?_setCell_other _ _ _ _ (by intro e; injection e; omega), World.cell?_setCell_same' _ _ _ (by rw [c20]; rfl)]
      · rw [World.cell?_setCell_other _ _ _ _ (by intro e; injection e; omega), World.cell?_setCell_same' _ _ _ (by rw [World.cell?_setCell_other _ _ _ _ (by intro e; injection e; omega), c21]; rfl)]
      · rw [World.cell?_setCell_same' _ _ _ (by rw [World.cell?_setCell_other _ _ _ _ (by intro e; injection e; omega), World.cell?_setCell_other _ _ _ _ (by intro e; injection e; omega), c3]; rfl)]
    · rename_i h1 h2
      have hat : ∀ tl, atR t win (pre ++ [x] ++ tl) = (⟨0, 0⟩, false) := fun tl => by
        rw [List.append_assoc, atR_skip hne, List.singleton_append, atR, if_neg (by omega), wI_wrap64, if_neg (by omega)]
      exact ⟨⟨rfl, rfl⟩, hB2, by omega, .inr ⟨rfl, hz2, hz3, hat⟩⟩
  case hI =>
    rintro pre W l o hl ⟨h1, h2, h3⟩
    simp only [World.size_alloc] at hl
    exact ⟨h1, h2.trans ⟨rfl, rfl, rfl, by simp, fun k hk => World.putObj_heap_other (by omega)⟩, h3⟩
  case hIx =>
    rintro cd pre W l o hl ⟨h1, h2, h3⟩
    simp only [World.size_alloc] at hl
    refine ⟨h1.trans ⟨rfl, rfl, rfl, by simp, fun k hk => World.putObj_heap_other (by omega)⟩, h2, ?_⟩
    rcases h3 with ⟨e, x, k1, k2, k3, k4⟩ | ⟨e, k1, k2, k3⟩
    · exact .inl ⟨e, x, (World.cell?_of_block (World.putObj_heap_other (by simp; omega))).trans k1, (World.cell?_of_block (World.putObj_heap_other (by simp; omega))).trans k2, (World.cell?_of_block (World.putObj_heap_other (by simp; omega))).trans k3, k4⟩
    · exact .inr ⟨e, (World.putObj_heap_other (by omega)).trans k1, (World.putObj_heap_other (by omega)).trans k2, k3⟩
  case hrd =>
    rintro pre W ⟨_, h2, _⟩
    have hB : W.heap[W5.heap.size]? = some (.cells #[.slice a S.length c] 75 (0, 0)) := (h2.block _ (by omega)).trans (World.alloc_heap_new W5 _)
    refine ⟨by rw [cell_at hB]; rfl, ?_⟩
    rcases hsa with h | ⟨b, st, ha, hc⟩
    · exact .inl h
    · by_cases hne : S = []
      · exact .inl hne
      have hbl := hab b st ha hne
      have hk : W.heap[b]? = W5.heap[b]? := (h2.block _ (by omega)).trans (Below.heap_alloc _ _ b hbl)
      exact .inr ⟨b, st, ha, fun j x hj => ⟨(World.cell?_of_block hk).trans (hc j x hj).1, (World.cell?_of_block hk).trans (hc j x hj).2⟩⟩
  case h0 =>
    intro o o'
    exact ⟨fun y hy => (by cases hy), ((Below.refl _ _).alloc (by simp) _).alloc (by simp) _, Nat.le_refl _⟩
  case hdone =>
    rintro D W hD ⟨h1, h2, h3⟩ hK
    simp only [World.size_alloc] at hD
    have hk : ∀ k, k < W5.heap.size → W.heap[k]? = W5.heap[k]? := fun k hk => (h2.block k (by omega)).trans (Below.heap_alloc _ _ k hk)
    have hz2 := (hk _ (by omega)).trans hy2
    have hz3 := (hk _ (by omega)).trans hy3
    have hBw : Below w.heap.size w W := hw5.b.trans ((((Below.refl _ W5).alloc (by omega) _).trans (h2.mono (by omega))))
    have hdw := hw5.d
    have hat : atR t win S.reverse = (⟨0, 0⟩, false) := by
      have := atR_skip (win := win) (r := []) h1
      rw [List.append_nil] at this
      rw [this]; rfl
    have c20 := cell_at hz2 0; have c21 := cell_at hz2 1; have c3 := cell_at hz3 0
    have f2 : W.frozen? ⟨w.heap.size + 1 + 1, 0, none⟩ = false := by simp [World.frozen?, hz2]
    have f21 : W.frozen? ⟨w.heap.size + 1 + 1, 1, none⟩ = false := by simp [World.frozen?, hz2]
    have f3 : W.frozen? ⟨w.heap.size + 1 + 1 + 1, 0, none⟩ = false := by simp [World.frozen?, hz3]
    simp at c20 c21 c3
    clear hk hz2 hz3 hy0 hy1 hy2 hy3 h2
    gi_wp2
    refine at_end (D := D) (T := 0) (V := 0) (b := false) (fun W' h => by simp only [smV, hat]; exact ⟨trivial, h⟩) (by omega) rfl rfl rfl (((hBw.setCell (by simp; omega) _).setCell (by simp; omega) _).setCell (by simp; omega) _) (by simp; omega) ?_ ?_ ?_ ?_
    · rw [World.cell?_setCell_other _ _ _ _ (by intro e; injection e; omega), World.cell?_setCell_other _ _ _ _ (by intro e; injection e; omega), World.cell?_setCell_same' _ _ _ (by rw [c20]; rfl)]
    · rw [World.cell?_setCell_other _ _ _ _ (by intro e; injection e; omega), World.cell?_setCell_same' _ _ _ (by rw [World.cell?_setCell_other _ _ _ _ (by intro e; injection e; omega), c21]; rfl)]
    · rw [World.cell?_setCell_same' _ _ _ (by rw [World.cell?_setCell_other _ _ _ _ (by intro e; injection e; omega), World.cell?_setCell_other _ _ _ _ (by intro e; injection e; omega), c3]; rfl)]
    · rw [Below.heap_setCell _ _ _ _ (by simp; omega), Below.heap_setCell _ _ _ _ (by simp; omega), Below.heap_setCell _ _ _ _ (by simp; omega)]; exact hK
  case hstop =>
    rintro D cd pre W hD hpre ⟨h1, h2, (⟨rfl, x, k1, k2, k3, k4⟩ | ⟨rfl, k1, k2, k3⟩)⟩ hK
    · simp only [World.size_alloc] at hD
      obtain ⟨tl, htl⟩ := hpre
      have hat := k4 tl
      rw [htl] at hat
      gi_wp2
      exact at_end (D := D) (T := x.T) (V := x.V) (b := true) (fun W' h => by simp only [smV, hat]; exact ⟨trivial, h⟩) (by omega) rfl rfl rfl h1 h2 k1 k2 k3 hK
    · simp only [World.size_alloc] at hD
      obtain ⟨tl, htl⟩ := hpre
      have hat := k3 tl
      rw [htl] at hat
      have c20 := cell_at k1 0; have c21 := cell_at k1 1; have c3 := cell_at k2 0
      have f2 : W.frozen? ⟨w.heap.size + 1 + 1, 0, none⟩ = false := by simp [World.frozen?, k1]
      have f21 : W.frozen? ⟨w.heap.size + 1 + 1, 1, none⟩ = false := by simp [World.frozen?, k1]
      have f3 : W.frozen? ⟨w.heap.size + 1 + 1 + 1, 0, none⟩ = false := by simp [World.frozen?, k2]
      simp at c20 c21 c3
      gi_wp2
      refine at_end (D := D) (T := 0) (V := 0) (b := false) (fun W' h => by simp only [smV, hat]; exact ⟨trivial, h⟩) (by omega) rfl rfl rfl (((h1.setCell (by simp; omega) _).setCell (by simp; omega) _).setCell (by simp; omega) _) (by simpa using h2) ?_ ?_ ?_ ?_
      · rw [World.cell?_setCell_other _ _ _ _ (by intro e; injection e; omega), World.cell?_setCell_other _ _ _ _ (by intro e; injection e; omega), World.cell?_setCell_same' _ _ _ (by rw [c20]; rfl)]
      · rw [World.cell?_setCell_other _ _ _ _ (by intro e; injection e; omega), World.cell?_setCell_same' _ _ _ (by rw [World.cell?_setCell_other _ _ _ _ (by intro e; injection e; omega), c21]; rfl)]
      · rw [World.cell?_setCell_same' _ _ _ (by rw [World.cell?_setCell_other _ _ _ _ (by intro e; injection e; omega), World.cell?_setCell_other _ _ _ _ (by intro e; injection e; omega), c3]; rfl)]
      · rw [Below.heap_setCell _ _ _ _ (by simp; omega), Below.heap_setCell _ _ _ _ (by simp; omega), Below.heap_setCell _ _ _ _ (by simp; omega)]; exact hK
end Go.Proofs.YtcpjmkbcefmldaaGreatDoor.AM

/- series.At: its contract. -/
namespace Go.Proofs.YtcpjmkbcefmldaaGreatDoor.AM
open Go Go.RowKit Go.Proofs

theorem iteM_cases {β : Type} {b : Bool} {x y : Option β} {r : β} (h : iteM b x y = some r) : (b = true ∧ x = some r) ∨ (b = false ∧ y = some r) := by
  unfold iteM at h
  cases b
  · exact .inr ⟨rfl, h⟩
  · exact .inl ⟨rfl, h⟩
theorem sane_len {s : List GSample} (h : series_Sane s = some true) : s.length ≤ 64 := by
  unfold series_Sane at h
  have h : iteM (decide ((64 : Int) < (s.length : Int))) (some false) _ = some true := h
  rcases iteM_cases h with ⟨_, h⟩ | ⟨h, _⟩
  · cases h
  · have := of_decide_eq_false h; omega
theorem counted_len {s c : List GSample} (h : series_counted s = some c) : c.length ≤ 64 := by
  unfold series_counted callM at h
  cases hs : series_Sane s with
  | none => rw [hs] at h; cases h
  | some b =>
    rw [hs] at h
    have h : iteM (!b) (some []) (some s) = some c := h
    cases b
    · cases h; simp
    · cases h; exact sane_len hs
theorem mem_on {G : Ghost} {w W : World} (hm : Mem G [] w) (h : W3 w W) : Mem G [] W ∧ Step G w G W := by
  have hbl : G.bl = [] := List.length_eq_zero_iff.1 hm.len
  have hcell : ∀ t b o, G.im t b o → W.cell? ⟨b, o, none⟩ = w.cell? ⟨b, o, none⟩ := fun t b o hi => h.b.cell (p := ⟨b, o, none⟩) (hm.imLt t b o hi)
  have hext : Ext G w G W := ⟨hcell, fun _ _ _ h => h, fun _ _ h => h, fun _ _ h => .inl h, fun _ b l c s ex h => ⟨b, l, c, s, ex, h, .inr ⟨rfl, rfl, rfl⟩⟩⟩
  refine ⟨⟨hm.len, fun o x g h1 => by simp at h1, hm.inj, fun o g b h1 => by rw [hbl] at h1; simp at h1, fun b off hi => Nat.lt_of_lt_of_le (hm.immLt.1 b off hi) h.b.size, hm.gl hext⟩, hext, fun k hk _ => h.b.block k hk, h.b.size, h.b.os, h.b.tape, ⟨h.b.output, h.d⟩, fun _ _ h => .inl h, fun o g _ h1 h2 => .inr ⟨o, g, h1, h2⟩⟩
theorem w3_of {G G' : Ghost} {w W : World} (hm : Mem G [] w) (h : Step G w G' W) : W3 w W := by
  have hbl : G.bl = [] := List.length_eq_zero_iff.1 hm.len
  exact ⟨h.below hbl, h.output.2⟩
theorem samp_of {G : Ghost} {W : World} (hm : Mem G [] W) {c : List GSample} {v : Value} (h : Conc G W (sl cGSample c) v) : ∃ a k, v = .slice a c.length k ∧ SampAt W a c ∧ ∀ b st, a = some ⟨b, st, none⟩ → c ≠ [] → b < W.heap.size ∧ G.imm b st := by
  cases h with
  | sl _ _ _ hd _ =>
  obtain ⟨a, k, rfl, _, _, hor⟩ := hd
  refine ⟨a, k, by rw [List.length_map], ?_, ?_⟩
  · rcases hor with h | ⟨b, st, sz, ha, hr⟩
    · left; simpa using h
    · right
      refine ⟨b, st, ha, fun j x hj => ?_⟩
      have hrow : (c.map cGSample)[j]? = some (cGSample x) := by rw [List.getElem?_map, hj]; rfl
      have hsz : sz = 2 := by rw [← hr.1 j _ hrow]; rfl
      subst hsz
      obtain ⟨v1, h1, _, d1⟩ := hr.2 j 0 _ (.v (.int .i64 x.T)) hrow rfl
      obtain ⟨v2, h2, _, d2⟩ := hr.2 j 1 _ (.v (.int .i64 x.V)) hrow rfl
      cases d1; cases d2
      exact ⟨h1, h2⟩
  · intro b st ha hne
    rcases hor with h | ⟨b', st', sz, ha', hr⟩
    · exact absurd (by simpa using h) hne
    · rw [ha] at ha'; cases ha'
      cases c with
      | nil => exact absurd rfl hne
      | cons x l =>
        obtain ⟨_, _, hi, _⟩ := hr.2 0 0 _ (.v (.int .i64 x.T)) rfl rfl
        have hi : G.imm b st := (by simpa using hi : G.im .none b st)
        exact ⟨hm.immLt.1 _ _ hi, hi⟩

theorem count_calls {G : Ghost} {w : World} (hm : Mem G [] w) {s c : List GSample} (hc : series_counted s = some c) {v : Value} (hv : Conc G w (sl cGSample s) v) : ∀ W, W3 w W → Calls Tryz.prog 72 #[v] W fun e W' => ∃ a k, e = .returned (.slice a c.length k) ∧ SampAt W' a c ∧ (∀ b st, a = some ⟨b, st, none⟩ → c ≠ [] → b < W'.heap.size) ∧ W3 W W' := by
  intro W hW
  obtain ⟨hmW, hst⟩ := mem_on hm hW
  refine (series_counted_run hc G W [v] hmW ⟨rfl, fun i x u hx hu => ?_⟩).mono ?_
  · match i, hx, hu with
    | 0, hx, hu => cases hx; cases hu; exact hv.mono hst.ext
    | i + 1, hx, _ => simp at hx
  · rintro e W' ⟨ae, o, G', ⟨rfl, rfl⟩, hm', hst', hend⟩
    cases e with
    | returned u =>
      obtain ⟨a, k, rfl, h1, h2⟩ := samp_of hm' hend
      exact ⟨a, k, rfl, h1, fun b st ha hne => (h2 b st ha hne).1, w3_of hmW hst'⟩
    | panicked ch => exact hend.elim
    | outgrown => exact hend.elim
theorem series_At_run {s : List GSample} {t w : Int} {r : GSample × Bool} (h : series_At s t w = some r) : Fun Tryz.prog 47 [sl cGSample s, vI t, vI w] (.tup [ag cGSample r.1, vB r.2]) [] := by
  unfold series_At at h
  cases hc : series_counted s with
  | none => rw [hc] at h; cases h
  | some c =>
  rw [hc] at h
  cases h
  intro G wd vs hm hcv
  obtain ⟨hvl, hcv⟩ := hcv
  match vs, hvl, hcv with
  | [v1, v2, v3], _, hcv =>
    have e2 := conc_v' (hcv 1 (vI t) v2 rfl rfl)
    have e3 := conc_v' (hcv 2 (vI w) v3 rfl rfl)
    subst e2; subst e3
    have h1 := hcv 0 _ v1 rfl rfl
    have hl := counted_len hc
    refine (callsIn_wide.1 (At_in v1 t w c (by omega) wd (count_calls hm hc h1))).mono ?_
    rintro e w' ⟨rfl, hw⟩
    obtain ⟨hm', hst⟩ := mem_on hm hw
    refine ⟨_, _, G, ⟨rfl, rfl⟩, hm', hst, ?_⟩
    generalize atR t w c.reverse = q
    refine Conc.tup (G := G) (w := w') [ag cGSample q.1, vB q.2] [smV q.1, .bool q.2] rfl fun i x u hx hu => ?_
    match i, hx, hu with
    | 0, hx, hu =>
      cases hx; cases hu
      refine Conc.agg (G := G) (w := w') _ [.int .i64 q.1.T, .int .i64 q.1.V] rfl (fun i v hv => ?_) (fun i x v hx hv => ?_)
      · match i, hv with
        | 0, hv => cases hv; rfl
        | 1, hv => cases hv; rfl
        | i + 2, hv => simp at hv
      · match i, hx, hv with
        | 0, hx, hv => cases hx; cases hv; exact .v _ rfl
        | 1, hx, hv => cases hx; cases hv; exact .v _ rfl
        | i + 2, hx, hv => simp at hv
    | 1, hx, hu => cases hx; cases hu; exact .v _ rfl
    | i + 2, hx, hu => simp at hu
end Go.Proofs.YtcpjmkbcefmldaaGreatDoor.AM

/- Calls and appends as steps of a drawn region. -/
namespace Go.Proofs.YtcpjmkbcefmldaaGreatDoor.AM
open Go Go.RowKit Go.Proofs

theorem step_fun1 {P : Program} {ops : Array Oper} {o : Oper} {a : Act} {w : World} {K : Act → World → Prop} {Q : Exit → Act → World → Prop} {E : Prop} (hg : o.guard = none) (f : Nat) (x : Operand) (ts : Array TypeId)
    (hop : o.op = Op.call { callee := Callee.value (.func f), args := #[x], argTypes := ts }) (hen : enters P f = true) (v : Value) (hx : a.eval x = v) (h : Calls P f #[v] w fun e w' => ∃ r, e = .returned r ∧ K (a.put o.dst r) w') :
    if Region.wanted o (yielded ops a.tmps) = true then Oper.wp P o a w K Q else E := by
  have hw : Region.wanted o (yielded ops a.tmps) = true := by simp [Region.wanted, hg]
  rw [if_pos hw]
  unfold Oper.wp
  have e1 := call_run (w := w) (vs := #[v]) hen
  have ef : a.eval (.func f) = .func (.func f) #[] #[] := rfl
  have hr : (execOp a.eval o).run P w = .ok (.enter f #[v]) w := by
    cases x with
    | tmp t =>
      have hx' : a.tmps[t]?.getD undef = v := by rw [← hx]; simp [Act.eval]
      simp [execOp, hop, resolve, invoke, ef, go_sem, hx', e1]
    | const c => cases hx; simp [execOp, hop, resolve, invoke, ef, go_sem]; exact e1
    | global g => cases hx; simp [execOp, hop, resolve, invoke, ef, go_sem]; exact e1
    | func g => cases hx; simp [execOp, hop, resolve, invoke, ef, go_sem]; exact e1
  rw [hr, Oper.upon_enter]
  refine h.mono ?_
  rintro e w' ⟨r, rfl, hk⟩
  exact hk
theorem step_appE {P : Program} {ops : Array Oper} {o : Oper} {a : Act} {w : World} {K : Act → World → Prop} {Q : Exit → Act → World → Prop} {E : Prop}
    (hg : o.guard = none) (d x : Operand) (t : TypeId) (hop : o.op = Op.call { callee := Callee.builtin Builtin.append, args := #[d, x], argTypes := #[t, t] })
    (v u : Value) (hd : a.eval d = v) (hx : a.eval x = u) (h : ∃ v' w', (Builtin.append_ #[t, t] o.type #[v, u]).run P w = .ok v' w' ∧ K (a.put o.dst v') w') :
    if Region.wanted o (yielded ops a.tmps) = true then Oper.wp P o a w K Q else E := by
  have hw : Region.wanted o (yielded ops a.tmps) = true := by simp [Region.wanted, hg]
  obtain ⟨v', w', hr, hK⟩ := h
  rw [if_pos hw]
  unfold Oper.wp
  simp [execOp, hop, resolve, invoke, builtin, hd, hx, hr, Result.andThen]
  exact hK
end Go.Proofs.YtcpjmkbcefmldaaGreatDoor.AM

/- slices.Clone of samples, walked. -/
namespace Go.Proofs.YtcpjmkbcefmldaaGreatDoor.AM
open Go Go.RowKit Go.Proofs Go.Lib

def flatS (S : List GSample) : List Value := S.flatMap fun x => [.int .i64 x.T, .int .i64 x.V]
theorem flatS_len (S : List GSample) : (flatS S).length = S.length * 2 := by
  induction S with
  | nil => rfl
  | cons x l ih => simp only [flatS, List.flatMap_cons, List.length_append] at *; rw [ih]; simp; omega
theorem flatS_cons (x : GSample) (l : List GSample) : flatS (x :: l) = [.int .i64 x.T, .int .i64 x.V] ++ flatS l := rfl
theorem flatS_append (a b : List GSample) : flatS (a ++ b) = flatS a ++ flatS b := by simp [flatS]
theorem flatS_get (S : List GSample) : ∀ j x, S[j]? = some x → (flatS S)[j * 2]? = some (.int .i64 x.T) ∧ (flatS S)[j * 2 + 1]? = some (.int .i64 x.V) := by
  induction S with
  | nil => intro j x h; simp at h
  | cons y l ih =>
    intro j x h
    cases j with
    | zero => cases h; exact ⟨rfl, rfl⟩
    | succ j =>
      obtain ⟨h1, h2⟩ := ih j x h
      rw [flatS_cons, show (j + 1) * 2 = j * 2 + 1 + 1 from by omega, show j * 2 + 1 + 1 + 1 = (j * 2 + 1) + 1 + 1 from rfl]
      exact ⟨h1, h2⟩
theorem flatS_at {W : World} {b st : Nat} (S : List GSample) (h : ∀ j x, S[j]? = some x → W.cell? ⟨b, st + j * 2, none⟩ = some (.int .i64 x.T) ∧ W.cell? ⟨b, st + j * 2 + 1, none⟩ = some (.int .i64 x.V)) :
    ∀ j v, (flatS S)[j]? = some v → W.cell? ⟨b, st + j, none⟩ = some v := by
  intro j v hj
  have hl : j < S.length * 2 := by rw [← flatS_len]; exact (List.getElem?_eq_some_iff.1 hj).1
  have hq : j / 2 < S.length := by omega
  obtain ⟨x, hx⟩ : ∃ x, S[j / 2]? = some x := ⟨_, List.getElem?_eq_getElem hq⟩
  obtain ⟨f1, f2⟩ := flatS_get S _ x hx
  obtain ⟨g1, g2⟩ := h _ x hx
  by_cases he : j % 2 = 0
  · have e : j = j / 2 * 2 := by omega
    rw [e] at hj ⊢
    rw [f1] at hj; cases hj; exact g1
  · have e : j = j / 2 * 2 + 1 := by omega
    rw [e] at hj ⊢
    rw [f2] at hj; cases hj; exact g2
theorem flatS_one (S : List GSample) : OneL (flatS S) := by
  intro j v hj
  have hl : j < S.length * 2 := by rw [← flatS_len]; exact (List.getElem?_eq_some_iff.1 hj).1
  have hq : j / 2 < S.length := by omega
  obtain ⟨x, hx⟩ : ∃ x, S[j / 2]? = some x := ⟨_, List.getElem?_eq_getElem hq⟩
  obtain ⟨f1, f2⟩ := flatS_get S _ x hx
  by_cases he : j % 2 = 0
  · have e : j = j / 2 * 2 := by omega
    rw [e, f1] at hj; cases hj; rfl
  · have e : j = j / 2 * 2 + 1 := by omega
    rw [e, f2] at hj; cases hj; rfl
structure RowS (W : World) (b k : Nat) (S : List GSample) : Prop where
  row : ∃ cur, W.heap[b]? = some (.cells cur 39 (0, 0)) ∧ cur.size = k * 2 ∧ cur.toList.take (S.length * 2) = flatS S
theorem RowS.at_ {W : World} {b k : Nat} {S : List GSample} (h : RowS W b k S) : SampAt W (some ⟨b, 0, none⟩) S := by
  obtain ⟨cur, hg, hs, ht⟩ := h.row
  refine .inr ⟨b, 0, rfl, fun j x hj => ?_⟩
  have hl : j < S.length := (List.getElem?_eq_some_iff.1 hj).1
  obtain ⟨f1, f2⟩ := flatS_get S j x hj
  rw [← ht, List.getElem?_take] at f1 f2
  rw [if_pos (by omega)] at f1 f2
  rw [cell_at hg, cell_at hg]
  rw [Array.getElem?_toList] at f1 f2
  exact ⟨by rw [Nat.zero_add]; exact f1, by rw [Nat.zero_add]; exact f2⟩

set_option maxHeartbeats 4000000 in
set_option maxRecDepth 100000 in
theorem clone_in (a : Option Addr) (c : Nat) (S : List GSample) (w : World) (hS : S.length ≤ 64) (hs : SampAt w a S) :
    Calls Tryz.prog 86 #[.slice a S.length c] w fun e w' => ∃ a' k, e = .returned (.slice a' S.length k) ∧ S.length ≤ k ∧ k ≤ maxLen ∧ W3 w w' ∧
      ((S = [] ∧ k = 0) ∨ ∃ b, a' = some ⟨b, 0, none⟩ ∧ w.heap.size ≤ b ∧ RowS w' b k S) := by
  have t75 := Tryz.underlying75; have a75 := Tryz.isAgg75; have z75 := Tryz.sizeOf75; have t39 := Tryz.underlying39; have a39 := Tryz.isAgg39; have z39 := Tryz.sizeOf39
  have u75 := run_underlying Tryz.underlying75
  obtain ⟨i0, z0, hi0, hz0, hsz, hby, hzs⟩ : ∃ i0 z0, Tryz.prog.info? 39 = some i0 ∧ i0.zero = some z0 ∧ i0.size = 2 ∧ i0.bytes = 16 ∧ z0.cells.size = 2 := ⟨(Tryz.prog.info? 39).get!, (Tryz.prog.info? 39).get!.zero.get!, by kernel_rfl, by kernel_rfl, by kernel_rfl, by kernel_rfl, by kernel_rfl⟩
  have q75 : ∀ (w : World) (a : Option Addr) (n c n' c' : Nat), (binOp .eql 75 (.slice a n c) (.slice none n' c')).run Tryz.prog w = .ok (.bool a.isNone) w := fun w a n c n' c' => Lib.run_eql_slice_nil w _ _ a n c n' c' t75
  cases a with
  | none =>
    have h0 : S = [] := by
      rcases hs with h | ⟨b, st, h, _⟩
      · exact h
      · cases h
    subst h0
    go_enter Tryz.func86, Tryz.ntmps86
    go_wp2
    go_ret
    exact ⟨none, 0, rfl, Nat.zero_le _, Nat.zero_le _, W3.refl _, .inl (by simp)⟩
  | some a =>
    have hW : W3 w (w.alloc (.cells #[] 39)) := ⟨(Below.refl _ w).alloc (Nat.le_refl _) _, Nat.le_refl _⟩
    have hsz1 : (w.alloc (.cells #[] 39)).heap.size = w.heap.size + 1 := by simp
    by_cases h0 : S = []
    · subst h0
      have hfc : (Builtin.firstCells i0.size 0 (.slice (some a) 0 c)).run Tryz.prog (w.alloc (.cells #[] 39)) = .ok #[] (w.alloc (.cells #[] 39)) :=
        run_firstCells_some _ _ 0 a 0 c [] (by simp) (fun j v hj => by simp at hj)
      have hrun : ∀ ty, (Builtin.append_ #[75, 75] ty #[.slice (some ⟨w.heap.size, 0, none⟩) 0 0, .slice (some a) 0 c]).run Tryz.prog (w.alloc (.cells #[] 39)) = .ok (.slice (some ⟨w.heap.size, 0, none⟩) 0 0) (w.alloc (.cells #[] 39)) := fun ty =>
        append_same (P := Tryz.prog) (w.alloc (.cells #[] 39)) 75 75 ty 39 i0 t75 _ t75 (.inl rfl) hi0 (.slice (some a) 0 c) 0 (fun _ => rfl) _ 0 0 rfl hfc (Nat.le_refl _)
      go_enter Tryz.func86, Tryz.ntmps86
      go_wp2_with (at_builtin; refine Lib.wpList_append_run _ rfl _ _ _ _ rfl _ _ rfl rfl _ _ (hrun _) ?_)
      go_ret
      exact ⟨_, 0, rfl, Nat.zero_le _, Nat.zero_le _, hW, .inl (by simp)⟩
    · obtain ⟨b, st, ha, hc⟩ : ∃ b st, some a = some ⟨b, st, none⟩ ∧ ∀ j x, S[j]? = some x → w.cell? ⟨b, st + j * 2, none⟩ = some (.int .i64 x.T) ∧ w.cell? ⟨b, st + j * 2 + 1, none⟩ = some (.int .i64 x.V) := hs.resolve_left h0
      cases ha
      have hpos : 0 < S.length := List.length_pos_iff.2 h0
      have hfc : (Builtin.firstCells i0.size S.length (.slice (some ⟨b, st, none⟩) S.length c)).run Tryz.prog (w.alloc (.cells #[] 39)).drew = .ok (flatS S).toArray (w.alloc (.cells #[] 39)).drew :=
        run_firstCells_some _ _ S.length _ S.length c (flatS S) (by rw [flatS_len, hsz]) (fun j v hj => by
          rw [Addr.add_lit]
          have h1 := flatS_at S hc j v hj
          show (w.alloc (.cells #[] 39)).cell? _ = _
          exact Lib.cell?_alloc_some _ h1)
      have hold : (Builtin.firstCells i0.size 0 (.slice (some ⟨w.heap.size, 0, none⟩) 0 0)).run Tryz.prog (w.alloc (.cells #[] 39)).drew = .ok #[] (w.alloc (.cells #[] 39)).drew :=
        run_firstCells_some _ _ 0 _ 0 0 [] (by simp) (fun j v hj => by simp at hj)
      have hrun : ∀ ty, (Builtin.append_ #[75, 75] ty #[.slice (some ⟨w.heap.size, 0, none⟩) 0 0, .slice (some ⟨b, st, none⟩) S.length c]).run Tryz.prog (w.alloc (.cells #[] 39)) =
          .ok (.slice (some ⟨(w.alloc (.cells #[] 39)).heap.size, 0, none⟩) (0 + S.length) (grownCap (w.alloc (.cells #[] 39)) (0 + S.length) 0 39))
            ((w.alloc (.cells #[] 39)).drew.alloc (.cells ([].toArray ++ (flatS S).toArray ++ Builtin.zeroCells z0.cells (grownCap (w.alloc (.cells #[] 39)) (0 + S.length) 0 39 - (0 + S.length))) 39)) := fun ty =>
        append_grow (P := Tryz.prog) (w.alloc (.cells #[] 39)) 75 75 ty 39 i0 z0 t75 _ t75 (.inl rfl) hi0 hz0 (.slice (some ⟨b, st, none⟩) S.length c) S.length (fun _ => rfl) (flatS S) _ 0 0 [] hfc hold (by omega) (by omega) (by rw [hby]; exact growslice_fits (by omega) (by omega))
      rw [Nat.zero_add] at hrun
      have hg1 := grownCap_ge (w.alloc (.cells #[] 39)) S.length 0 39
      have hg2 := grownCap_le_maxLen (w.alloc (.cells #[] 39)) S.length 0 39 (by unfold maxLen; omega)
      obtain ⟨G, hG⟩ : ∃ G, G = grownCap (w.alloc (.cells #[] 39)) S.length 0 39 := ⟨_, rfl⟩
      obtain ⟨zc, hzc⟩ : ∃ zc, zc = z0.cells := ⟨_, rfl⟩
      rw [← hG, ← hzc, hsz1] at hrun
      rw [← hG] at hg1 hg2
      rw [← hzc] at hzs
      obtain ⟨w2, hw2⟩ : ∃ w2, w2 = (w.alloc (.cells #[] 39)).drew.alloc (.cells ([].toArray ++ (flatS S).toArray ++ Builtin.zeroCells zc (G - S.length)) 39) := ⟨_, rfl⟩
      rw [← hw2] at hrun
      have hfin : W3 w w2 ∧ RowS w2 (w.heap.size + 1) G S := by
        rw [hw2]
        refine ⟨⟨((Below.refl _ w).alloc (Nat.le_refl _) (.cells #[] 39)).trans (Below.alloc (a := w.alloc (.cells #[] 39)) (w := (w.alloc (.cells #[] 39)).drew) ⟨rfl, rfl, rfl, Nat.le_refl _, fun _ _ => rfl⟩ (by show w.heap.size ≤ (w.alloc (.cells #[] 39)).heap.size; omega) _), by show w.drawn ≤ w.drawn + 1; omega⟩,
          ⟨⟨[].toArray ++ (flatS S).toArray ++ Builtin.zeroCells zc (G - S.length), ?_, ?_, ?_⟩⟩⟩
        · have := World.alloc_heap_new (w.alloc (.cells #[] 39)).drew (.cells ([].toArray ++ (flatS S).toArray ++ Builtin.zeroCells zc (G - S.length)) 39)
          rw [show (w.alloc (.cells #[] 39)).drew.heap.size = w.heap.size + 1 from hsz1] at this
          exact this
        · simp only [Array.size_append, size_zeroCells', List.size_toArray, flatS_len, List.length_nil, hzs]
          omega
        · simp only [Array.toList_append, List.append_assoc, List.nil_append]
          rw [← flatS_len, List.take_left]
      clear hw2 hzc hG hold hfc
      go_enter Tryz.func86, Tryz.ntmps86
      go_wp2_with (at_builtin; refine Lib.wpList_append_run _ rfl _ _ _ _ rfl _ _ rfl rfl _ _ (hrun _) ?_)
      go_ret
      exact ⟨_, G, rfl, hg1, hg2, hfin.1, .inr ⟨_, rfl, by omega, hfin.2⟩⟩
end Go.Proofs.YtcpjmkbcefmldaaGreatDoor.AM

/- series.Append: the region that lays the new row. -/
namespace Go.Proofs.YtcpjmkbcefmldaaGreatDoor.AM
open Go Go.RowKit Go.Proofs
attribute [local go_sem] Oper.semAt_some

structure Bx (n : Nat) (W : World) (sv : Value) (x : GSample) : Prop where
  s : W.cell? ⟨n, 0, none⟩ = some sv
  sf : W.frozen? ⟨n, 0, none⟩ = false
  xT : W.cell? ⟨n + 1, 0, none⟩ = some (.int .i64 x.T)
  xV : W.cell? ⟨n + 1, 1, none⟩ = some (.int .i64 x.V)
  r : W.cell? ⟨n + 1 + 1, 0, none⟩ = some (.slice none 0 0)
  rf : W.frozen? ⟨n + 1 + 1, 0, none⟩ = false
  e : W.cell? ⟨n + 1 + 1 + 1, 0, none⟩ = some (.int .i64 0)
  ef : W.frozen? ⟨n + 1 + 1 + 1, 0, none⟩ = false
  lt : n + 1 + 1 + 1 < W.heap.size
theorem Bx.below {n B : Nat} {W W' : World} {sv : Value} {x : GSample} (h : Bx n W sv x) (hb : Below B W W') (hB : n + 1 + 1 + 1 < B) : Bx n W' sv x :=
  ⟨(hb.cell (p := ⟨n, 0, none⟩) (by simp; omega)).trans h.s, (hb.frozen (p := ⟨n, 0, none⟩) (by simp; omega)).trans h.sf, (hb.cell (p := ⟨n + 1, 0, none⟩) (by simp; omega)).trans h.xT, (hb.cell (p := ⟨n + 1, 1, none⟩) (by simp; omega)).trans h.xV,
   (hb.cell (p := ⟨n + 1 + 1, 0, none⟩) (by simp; omega)).trans h.r, (hb.frozen (p := ⟨n + 1 + 1, 0, none⟩) (by simp; omega)).trans h.rf, (hb.cell (p := ⟨n + 1 + 1 + 1, 0, none⟩) (by simp; omega)).trans h.e, (hb.frozen (p := ⟨n + 1 + 1 + 1, 0, none⟩) (by simp; omega)).trans h.ef, Nat.lt_of_lt_of_le h.lt hb.size⟩
theorem Bx.w3 {n : Nat} {W W' : World} {sv : Value} {x : GSample} (h : Bx n W sv x) (hb : W3 W W') : Bx n W' sv x := h.below hb.b h.lt
theorem Bx.set {n : Nat} {W : World} {sv : Value} {x : GSample} (h : Bx n W sv x) (u : Value) : Bx n (W.setCell ⟨n, 0, none⟩ u) u x := by
  have ne : ∀ {p : Addr}, n < p.block → (⟨n, 0, none⟩ : Addr) ≠ p := fun hp e => by rw [← e] at hp; simp at hp
  refine ⟨World.cell?_setCell_same' _ _ _ (by rw [h.s]; rfl), by rw [World.frozen?_setCell]; exact h.sf, ?_, ?_, ?_, by rw [World.frozen?_setCell]; exact h.rf, ?_, by rw [World.frozen?_setCell]; exact h.ef, by simpa using h.lt⟩
  · rw [World.cell?_setCell_other _ _ _ _ (ne (by simp))]; exact h.xT
  · rw [World.cell?_setCell_other _ _ _ _ (ne (by simp))]; exact h.xV
  · rw [World.cell?_setCell_other _ _ _ _ (ne (by simp; omega))]; exact h.r
  · rw [World.cell?_setCell_other _ _ _ _ (ne (by simp; omega))]; exact h.e

def rOf (n : Nat) : Code → Option Code
  | .seq a b => match rOf n a with
    | some c => some c
    | none => rOf n b
  | .region k ops d => if k = n then some (.region k ops d) else none
  | _ => none

theorem app_one {W : World} {a : Option Addr} {k : Nat} {S : List GSample} {B : Nat} {x : GSample} (hS : S.length ≤ 64) (hk : S.length ≤ k) (hk2 : k ≤ maxLen)
    (hor : (S = [] ∧ k = 0) ∨ ∃ b, a = some ⟨b, 0, none⟩ ∧ RowS W b k S) (c0 : W.cell? ⟨B, 0, none⟩ = some (.int .i64 x.T)) (c1 : W.cell? ⟨B, 1, none⟩ = some (.int .i64 x.V)) (ty : TypeId) :
    ∃ v' W', (Builtin.append_ #[75, 75] ty #[.slice a S.length k, .slice (some ⟨B, 0, none⟩) 1 1]).run Tryz.prog W = .ok v' W' ∧
      ∃ g q, v' = .slice (some ⟨g, 0, none⟩) (S.length + 1) q ∧ S.length + 1 ≤ q ∧ q ≤ maxLen ∧ RowS W' g q (S ++ [x]) ∧ (g = W.heap.size ∨ (a = some ⟨g, 0, none⟩ ∧ S.length + 1 ≤ k)) ∧
        (∀ j, j < W.heap.size → j ≠ g → W'.heap[j]? = W.heap[j]?) ∧ W'.os = W.os ∧ W'.tape = W.tape ∧ W'.output = W.output ∧ W.heap.size ≤ W'.heap.size ∧ W.drawn ≤ W'.drawn := by
  have t75 := Tryz.underlying75
  obtain ⟨i0, z0, hi0, hz0, hsz, hby, hzs⟩ : ∃ i0 z0, Tryz.prog.info? 39 = some i0 ∧ i0.zero = some z0 ∧ i0.size = 2 ∧ i0.bytes = 16 ∧ z0.cells.size = 2 := ⟨(Tryz.prog.info? 39).get!, (Tryz.prog.info? 39).get!.zero.get!, by kernel_rfl, by kernel_rfl, by kernel_rfl, by kernel_rfl, by kernel_rfl⟩
  have hx : ∀ j v, (flatS [x])[j]? = some v → W.cell? (Addr.add ⟨B, 0, none⟩ j) = some v := fun j v hj => by
    rw [Addr.add_lit]
    match j, hj with
    | 0, hj => cases hj; exact c0
    | 1, hj => cases hj; exact c1
    | j + 2, hj => simp [flatS] at hj
  have hxl : (flatS [x]).length = 2 := rfl
  by_cases hroom : S.length + 1 ≤ k
  · obtain ⟨b, rfl, ⟨cur, hg, hcs, hct⟩⟩ := hor.resolve_left (fun h => by omega)
    have hfc : (Builtin.firstCells i0.size 1 (.slice (some ⟨B, 0, none⟩) 1 1)).run Tryz.prog W = .ok (flatS [x]).toArray W := run_firstCells_some W _ 1 _ 1 1 (flatS [x]) (by rw [hxl, hsz]) hx
    have hrun := append_room (P := Tryz.prog) W 75 75 ty 39 i0 t75 _ t75 (.inl rfl) hi0 (.slice (some ⟨B, 0, none⟩) 1 1) 1 (fun _ => rfl) (flatS [x]) b S.length k cur hg hfc (flatS_one [x]) hroom (by rw [hxl, hsz, hcs]; omega)
    rw [hsz, hxl] at hrun
    refine ⟨_, _, hrun, b, k, rfl, hroom, hk2, ⟨⟨_, setRow_heap W b cur _ 39 (0, 0) hg, ?_, ?_⟩⟩, .inr ⟨rfl, hroom⟩, fun j _ hj => setRow_other W b j _ hj, rfl, rfl, rfl, ?_, Nat.le_refl _⟩
    · simp only [List.size_toArray, List.length_append, List.length_take, List.length_drop, Array.length_toList, hxl]; omega
    · simp only [List.length_append, List.length_singleton]
      rw [hct, List.append_assoc, flatS_append, ← List.append_assoc]
      have : (S.length + 1) * 2 = (flatS S ++ flatS [x]).length := by rw [List.length_append, flatS_len, flatS_len, List.length_singleton]; omega
      rw [this, List.take_left]
    · simp [World.setRow]
  · have hfc : (Builtin.firstCells i0.size 1 (.slice (some ⟨B, 0, none⟩) 1 1)).run Tryz.prog W.drew = .ok (flatS [x]).toArray W.drew := run_firstCells_some W.drew _ 1 _ 1 1 (flatS [x]) (by rw [hxl, hsz]) hx
    have hold : (Builtin.firstCells i0.size S.length (.slice a S.length k)).run Tryz.prog W.drew = .ok (flatS S).toArray W.drew := by
      rcases hor with ⟨h, _⟩ | ⟨b, rfl, ⟨cur, hg, hcs, hct⟩⟩
      · subst h
        cases a with
        | none => exact run_firstCells_none W.drew _ 0 0 k
        | some a => exact run_firstCells_some W.drew _ 0 a 0 k [] (by simp) (fun j v hj => by simp at hj)
      · refine run_firstCells_some W.drew _ S.length _ S.length k (flatS S) (by rw [flatS_len, hsz]) (fun j v hj => ?_)
        rw [Addr.add_lit, Nat.zero_add]
        rw [← hct, List.getElem?_take] at hj
        split at hj
        · rw [cell_at (w := W.drew) (show W.drew.heap[b]? = _ from hg)]
          rw [← Array.getElem?_toList]; exact hj
        · cases hj
    have hrun := append_grow (P := Tryz.prog) W 75 75 ty 39 i0 z0 t75 _ t75 (.inl rfl) hi0 hz0 (.slice (some ⟨B, 0, none⟩) 1 1) 1 (fun _ => rfl) (flatS [x]) a S.length k (flatS S) hfc hold (by omega) (by omega) (by rw [hby]; exact growslice_fits (by omega) (by omega))
    have hg1 := grownCap_ge W (S.length + 1) k 39
    have hg2 := grownCap_le_maxLen W (S.length + 1) k 39 (by unfold maxLen; omega)
    refine ⟨_, _, hrun, W.heap.size, _, rfl, hg1, hg2, ⟨⟨_, World.alloc_heap_new W.drew _, ?_, ?_⟩⟩, .inl rfl, fun j hj _ => Below.heap_alloc W.drew _ j hj, rfl, rfl, rfl, ?_, ?_⟩
    · simp only [Array.size_append, size_zeroCells', List.size_toArray, flatS_len, hxl, hzs]; omega
    · simp only [Array.toList_append, List.length_append, List.length_singleton]
      rw [flatS_append]
      have : (S.length + 1) * 2 = (flatS S ++ flatS [x]).length := by rw [List.length_append, flatS_len, flatS_len, List.length_singleton]; omega
      rw [this, List.take_left]
    · rw [World.size_alloc]; exact Nat.le_succ _
    · show W.drawn ≤ W.drawn + 1; omega

structure Aft (n : Nat) (x : GSample) (S : List GSample) (W W' : World) (g q : Nat) : Prop where
  p5 : W'.cell? ⟨n + 1 + 1, 0, none⟩ = some (.slice none 0 0)
  p6 : W'.frozen? ⟨n + 1 + 1, 0, none⟩ = false
  p7 : W'.cell? ⟨n + 1 + 1 + 1, 0, none⟩ = some (.int .i64 0)
  p8 : W'.frozen? ⟨n + 1 + 1 + 1, 0, none⟩ = false
  q1 : S.length + 1 ≤ q
  q2 : q ≤ maxLen
  row : RowS W' g q (S ++ [x])
  g : W.heap.size ≤ g
  w3 : W3 W W'
theorem app_step {n : Nat} {W Wc : World} {sv : Value} {a : Option Addr} {k : Nat} {S : List GSample} {B : Nat} {x : GSample} (hB : Bx n W sv x) (hS : S.length ≤ 64) (hk : S.length ≤ k) (hk2 : k ≤ maxLen) (hw : W3 W Wc)
    (hor : (S = [] ∧ k = 0) ∨ ∃ b, a = some ⟨b, 0, none⟩ ∧ W.heap.size ≤ b ∧ RowS Wc b k S) (c0 : Wc.cell? ⟨B, 0, none⟩ = some (.int .i64 x.T)) (c1 : Wc.cell? ⟨B, 1, none⟩ = some (.int .i64 x.V)) (ty : TypeId) :
    ∃ v' W', (Builtin.append_ #[75, 75] ty #[.slice a S.length k, .slice (some ⟨B, 0, none⟩) 1 1]).run Tryz.prog Wc = .ok v' W' ∧
      ∃ g q, v' = .slice (some ⟨g, 0, none⟩) (S.length + 1) q ∧ Aft n x S W W' g q := by
  obtain ⟨v', W', hr, g, q, rfl, q1, q2, hrow, hg, hot, h1, h2, h3, h4, h5⟩ := app_one (x := x) hS hk hk2 (hor.imp id fun ⟨b, h1, _, h3⟩ => ⟨b, h1, h3⟩) c0 c1 ty
  have hgW : W.heap.size ≤ g := by
    rcases hg with h | h
    · rw [h]; exact hw.b.size
    · rcases hor with ⟨h0, hk0⟩ | ⟨b, hb, hlt, _⟩
      · omega
      · have h := h.1
        rw [hb] at h; cases h; exact hlt
  have hw' : W3 W W' := ⟨⟨h1.trans hw.b.os, h2.trans hw.b.tape, h3.trans hw.b.output, Nat.le_trans hw.b.size h4, fun j hj => (hot j (Nat.lt_of_lt_of_le hj hw.b.size) (by omega)).trans (hw.b.block j hj)⟩, Nat.le_trans hw.d h5⟩
  have hB' := hB.w3 hw'
  exact ⟨_, _, hr, g, q, rfl, hB'.r, hB'.rf, hB'.e, hB'.ef, q1, q2, hrow, hgW, hw'⟩

theorem SampAt.on {W W' : World} {a : Option Addr} {S : List GSample} (h : SampAt W a S) (hb : ∀ b st, a = some ⟨b, st, none⟩ → S ≠ [] → W'.heap[b]? = W.heap[b]?) : SampAt W' a S := by
  by_cases hne : S = []
  · exact .inl hne
  rcases h with h | ⟨b, st, ha, h⟩
  · exact absurd h hne
  · have hk := hb b st ha hne
    exact .inr ⟨b, st, ha, fun j y hj => ⟨(World.cell?_of_block hk).trans (h j y hj).1, (World.cell?_of_block hk).trans (h j y hj).2⟩⟩
theorem step_app2 {ops : Array Oper} {o : Oper} {act : Act} {Wc : World} {K : Act → World → Prop} {Q : Exit → Act → World → Prop} {E : Prop} (hgd : o.guard = none) (d y : Operand)
    (hop : o.op = Op.call { callee := Callee.builtin Builtin.append, args := #[d, y], argTypes := #[75, 75] }) {n : Nat} {W : World} {sv : Value} {a : Option Addr} {k : Nat} {S : List GSample} {B : Nat} {x : GSample}
    (hd : act.eval d = .slice a S.length k) (hy : act.eval y = .slice (some ⟨B, 0, none⟩) 1 1) (hB : Bx n W sv x) (hS : S.length ≤ 64) (hk : S.length ≤ k) (hk2 : k ≤ maxLen) (hw : W3 W Wc)
    (hor : (S = [] ∧ k = 0) ∨ ∃ b, a = some ⟨b, 0, none⟩ ∧ W.heap.size ≤ b ∧ RowS Wc b k S) (c0 : Wc.cell? ⟨B, 0, none⟩ = some (.int .i64 x.T)) (c1 : Wc.cell? ⟨B, 1, none⟩ = some (.int .i64 x.V))
    (hK : ∀ W' g q, Aft n x S W W' g q → K (act.put o.dst (.slice (some ⟨g, 0, none⟩) (S.length + 1) q)) W') :
    if Region.wanted o (yielded ops act.tmps) = true then Oper.wp Tryz.prog o act Wc K Q else E := by
  obtain ⟨v', W', hr, g, q, rfl, haft⟩ := app_step hB hS hk hk2 hw hor c0 c1 o.type
  exact step_appE hgd d y 75 hop _ _ hd hy ⟨_, _, hr, hK _ _ _ haft⟩
theorem RowS.on {W W' : World} {b k : Nat} {S : List GSample} (h : RowS W b k S) (hb : ∀ o, W.heap[b]? = some o → W'.heap[b]? = some o) : RowS W' b k S := by
  obtain ⟨cur, hg, h1, h2⟩ := h.row
  exact ⟨⟨cur, hb _ hg, h1, h2⟩⟩
theorem RowS.alloc {W : World} {b k : Nat} {S : List GSample} (h : RowS W b k S) (o : Go.Obj) : RowS (W.alloc o) b k S := by
  refine h.on fun o' ho => ?_
  rw [Below.heap_alloc _ _ _ (Array.getElem?_eq_some_iff.1 ho).1]; exact ho
theorem W3.alloc {W W' : World} (h : W3 W W') (o : Go.Obj) : W3 W (W'.alloc o) := ⟨h.b.alloc h.b.size o, h.d⟩
theorem cell_later {W W' : World} {cs : Array Value} {t : TypeId} (h : W3 (W.alloc (.cells cs t)) W') (j : Nat) : W'.cell? ⟨W.heap.size, j, none⟩ = cs[j]? :=
  (h.b.cell (p := ⟨W.heap.size, j, none⟩) (by simp)).trans (cell_at (World.alloc_heap_new W _) j)
theorem cell_later' {W W' : World} {cs : Array Value} {t : TypeId} (h : W3 (W.alloc (.cells cs t)).drew W') (j : Nat) : W'.cell? ⟨W.heap.size, j, none⟩ = cs[j]? :=
  (h.b.cell (p := ⟨W.heap.size, j, none⟩) (by show W.heap.size < (W.alloc _).heap.size; simp)).trans (cell_at (World.alloc_heap_new W _) j)
theorem cell_new {W : World} {cs : Array Value} {t : TypeId} (j : Nat) : (W.alloc (.cells cs t)).cell? ⟨W.heap.size, j, none⟩ = cs[j]? := cell_at (World.alloc_heap_new W _) j
structure RegEnd (n : Nat) (x : GSample) (S : List GSample) (W W' : World) (g q : Nat) : Prop where
  r : W'.cell? ⟨n + 1 + 1, 0, none⟩ = some (.slice (some ⟨g, 0, none⟩) (S.length + 1) q)
  e : W'.cell? ⟨n + 1 + 1 + 1, 0, none⟩ = some (.int .i64 0)
  q1 : S.length + 1 ≤ q
  q2 : q ≤ maxLen
  row : RowS W' g q (S ++ [x])
  g : W.heap.size ≤ g
  other : ∀ j, j < W.heap.size → j ≠ n + 1 + 1 → j ≠ n + 1 + 1 + 1 → W'.heap[j]? = W.heap[j]?
  os : W'.os = W.os
  tape : W'.tape = W.tape
  output : W'.output = W.output
  size : W.heap.size ≤ W'.heap.size
  drawn : W.drawn ≤ W'.drawn

theorem Aft.fin {n : Nat} {x : GSample} {S : List GSample} {W W' : World} {g q : Nat} (h : Aft n x S W W' g q) (h9 : n + 1 + 1 + 1 < W.heap.size) :
    RegEnd n x S W ((W'.setCell ⟨n + 1 + 1, 0, none⟩ (.slice (some ⟨g, 0, none⟩) (S.length + 1) q)).setCell ⟨n + 1 + 1 + 1, 0, none⟩ (.int .i64 0)) g q := by
  have hg := h.g
  refine ⟨?_, ?_, h.q1, h.q2, h.row.on fun o ho => ?_, hg, fun j hj h1 h2 => ?_, h.w3.b.os, h.w3.b.tape, h.w3.b.output, by simpa using h.w3.b.size, h.w3.d⟩
  · rw [World.cell?_setCell_other _ _ _ _ (by intro e; injection e; omega), World.cell?_setCell_same' _ _ _ (by rw [h.p5]; rfl)]
  · rw [World.cell?_setCell_same' _ _ _ (by rw [World.cell?_setCell_other _ _ _ _ (by intro e; injection e; omega), h.p7]; rfl)]
  · rw [Below.heap_setCell _ _ _ _ (by simp; omega), Below.heap_setCell _ _ _ _ (by simp; omega)]; exact ho
  · rw [Below.heap_setCell _ _ _ _ (by simpa using h2), Below.heap_setCell _ _ _ _ (by simpa using h1)]; exact h.w3.b.block j hj

set_option maxRecDepth 100000 in
set_option maxHeartbeats 4000000 in
theorem ap_region {cd : Code} (hcd : Tryz.f63.body.bind (rOf 10) = some cd) {n : Nat} {W : World} {a : Option Addr} {c : Nat} {S : List GSample} {x : GSample} (hS : S.length ≤ 64) (hB : Bx n W (.slice a S.length c) x) (hat : SampAt W a S) (hbl : ∀ b st, a = some ⟨b, st, none⟩ → S ≠ [] → b < W.heap.size)
    (x0 x1 x6 x7 x8 x9 x10 x11 x12 x13 x14 x15 x16 x17 x18 x19 x20 x21 x22 x23 x24 x25 x26 x27 x28 x29 x30 x31 x32 x33 x34 x35 x36 x37 x38 : Value) (ds : List Deferred) {Q : Exit → Act → World → Prop}
    (hQ : ∀ act' W' g q, act'.eval (.tmp 4) = .pointer (some ⟨n + 1 + 1, 0, none⟩) → act'.eval (.tmp 5) = .pointer (some ⟨n + 1 + 1 + 1, 0, none⟩) → act'.defers = ds → RegEnd n x S W W' g q → Q .normal act' W') :
    cd.wp Tryz.prog Q { tmps := #[x0, x1, .pointer (some ⟨n, 0, none⟩), .pointer (some ⟨n + 1, 0, none⟩), .pointer (some ⟨n + 1 + 1, 0, none⟩), .pointer (some ⟨n + 1 + 1 + 1, 0, none⟩), x6, x7, x8, x9, x10, x11, x12, x13, x14, x15, x16, x17, x18, x19, x20, x21, x22, x23, x24, x25, x26, x27, x28, x29, x30, x31, x32, x33, x34, x35, x36, x37, x38], defers := ds } W := by
  have hcd' : Tryz.f63.body.bind (rOf 10) = some _ := rfl
  rw [hcd'] at hcd
  cases hcd
  clear hcd'
  have t75 := Tryz.underlying75; have a75 := Tryz.isAgg75; have z75 := Tryz.sizeOf75; have t39 := Tryz.underlying39; have a39 := Tryz.isAgg39; have z39 := Tryz.sizeOf39; have t3 := Tryz.underlying3; have a3 := Tryz.isAgg3; have z3 := Tryz.sizeOf3; have t42 := Tryz.underlying42; have a42 := Tryz.isAgg42; have z42 := Tryz.sizeOf42
  have mixed : Tryz.prog.follows .mixedOrders = true := by kernel_rfl
  obtain ⟨p1, p2, p3, p4, p5, p6, p7, p8, p9⟩ := hB
  have hB : Bx n W (.slice a S.length c) x := ⟨p1, p2, p3, p4, p5, p6, p7, p8, p9⟩
  have hcl : ∀ W', W3 W W' → Calls Tryz.prog 86 #[.slice a S.length c] W' fun e w' => ∃ a' k, e = .returned (.slice a' S.length k) ∧ S.length ≤ k ∧ k ≤ maxLen ∧ W3 W' w' ∧ W3 W w' ∧ Bx n w' (.slice a S.length c) x ∧
      ((S = [] ∧ k = 0) ∨ ∃ b, a' = some ⟨b, 0, none⟩ ∧ W.heap.size ≤ b ∧ RowS w' b k S) := fun W' hw => by
    have hat' : SampAt W' a S := hat.on fun b st ha hne => hw.b.block b (hbl b st ha hne)
    exact (clone_in a c S W' hS hat').mono fun e w' ⟨a', k, h1, h2, h3, h4, h5⟩ => ⟨a', k, h1, h2, h3, h4, hw.trans h4, hB.w3 (hw.trans h4), h5.imp id fun ⟨b, h6, h7, h8⟩ => ⟨b, h6, Nat.le_trans hw.b.size h7, h8⟩⟩
  have wd : W3 W W.drew := ⟨⟨rfl, rfl, rfl, Nat.le_refl _, fun _ _ => rfl⟩, Nat.le_succ _⟩
  have wa : ∀ o, W3 W (W.drew.alloc o) := fun o => ⟨wd.b.alloc (Nat.le_refl _) o, Nat.le_succ _⟩
  have wb : ∀ o, W3 W (W.alloc o).drew := fun o => ⟨((Below.refl _ W).alloc (Nat.le_refl _) o).trans ⟨rfl, rfl, rfl, Nat.le_refl _, fun _ _ => rfl⟩, Nat.le_succ _⟩
  have pa0 : (W.alloc (.cells #[.int .i64 x.T, .int .i64 x.V] 39)).cell? ⟨n, 0, none⟩ = some (.slice a S.length c) := Lib.cell?_alloc_some _ p1
  have pa : ((W.alloc (.cells #[.int .i64 x.T, .int .i64 x.V] 39)).drew).cell? ⟨n, 0, none⟩ = some (.slice a S.length c) := pa0
  go_region_law (first
    | (refine step_fun1 rfl 86 _ _ rfl (by kernel_rfl) _ (by simp [Act.eval, Act.put]) ((hcl _ (by first | exact wd | exact wa _ | exact wb _)).mono ?_)
       rintro e W2 ⟨a2, k2, rfl, hk1, hk2, h12, h02, hB2, hor⟩
       have q3 := hB2.xT
       have q4 := hB2.xV
       refine ⟨_, rfl, ?_⟩)
    | (refine step_app2 rfl _ _ rfl (by simp [Act.eval, Act.put]; try rfl) (by simp [Act.eval, Act.put]; try rfl) hB hS hk1 hk2 (by first | exact h02 | exact h02.alloc _) (by first | exact hor | exact hor.imp id fun ⟨b, h1, h2, h3⟩ => ⟨b, h1, h2, h3.alloc _⟩)
         (by first | exact cell_new 0 | exact cell_later h12 0 | exact cell_later' h12 0) (by first | exact cell_new 1 | exact cell_later h12 1 | exact cell_later' h12 1) (fun W9 g q haft => ?_)
       have p5 := haft.p5
       have p6 := haft.p6
       have p7 := haft.p7
       have p8 := haft.p8))
  all_goals exact hQ _ _ _ _ rfl rfl rfl (Aft.fin (by assumption) p9)
end Go.Proofs.YtcpjmkbcefmldaaGreatDoor.AM

/- series.Append, by hand. -/
namespace Go.Proofs.YtcpjmkbcefmldaaGreatDoor.AM
open Go Go.RowKit Go.Proofs
attribute [local go_sem] Oper.semAt_some

def Lies (imm : Nat → Nat → Prop) (n : Nat) (a : Option Addr) (S : List GSample) : Prop :=
  ∀ b st, a = some ⟨b, st, none⟩ → ∀ j x, S[j]? = some x → (imm b (st + j * 2) ∧ imm b (st + j * 2 + 1)) ∨ n ≤ b
structure GoodS (imm : Nat → Nat → Prop) (w W : World) (a : Option Addr) (c : Nat) (S : List GSample) : Prop where
  at_ : SampAt W a S
  lies : Lies imm w.heap.size a S
  cap : S.length ≤ c
  cap2 : c ≤ maxLen
def ApPost (imm : Nat → Nat → Prop) (w : World) (r : List GSample × Int) (e : Ending) (W : World) : Prop :=
  ∃ a c, e = .returned (.tuple #[.slice a r.1.length c, .int .i64 r.2]) ∧ GoodS imm w W a c r.1 ∧ W3 w W
theorem ap_end0 {W : World} {act : Act} {n : Nat} {v : Value} {er : Int} {R : Ending → World → Prop} (hR : R (.returned (.tuple #[v, .int .i64 er])) W)
    (ht4 : act.eval (.tmp 4) = .pointer (some ⟨n + 1 + 1, 0, none⟩)) (ht5 : act.eval (.tmp 5) = .pointer (some ⟨n + 1 + 1 + 1, 0, none⟩)) (hdef : act.defers = [])
    (k1 : W.cell? ⟨n + 1 + 1, 0, none⟩ = some v) (k2 : W.cell? ⟨n + 1 + 1 + 1, 0, none⟩ = some (.int .i64 er)) : bodyPostM Fence.wide 3 Tryz.prog Tryz.f63 R .ret act W := by
  obtain ⟨tm, df⟩ := act
  simp only at hdef
  subst hdef
  have t75 := Tryz.underlying75; have a75 := Tryz.isAgg75; have z75 := Tryz.sizeOf75; have t42 := Tryz.underlying42; have a42 := Tryz.isAgg42; have z42 := Tryz.sizeOf42
  refine ⟨.tuple #[v, .int .i64 er], ?_, hR⟩
  simp only [Act.eval, Array.getD_eq_getD_getElem?] at ht4 ht5
  simp [results, Tryz.f63, go_sem, ht4, ht5, k1, k2]
theorem ap_end1 {W : World} {act : Act} {n D : Nat} {v : Value} {er : Int} {R : Ending → World → Prop} (hR : R (.returned (.tuple #[v, .int .i64 er])) (W.putObj D (.deferred none))) (hD : n + 1 + 1 + 1 < D)
    (ht4 : act.eval (.tmp 4) = .pointer (some ⟨n + 1 + 1, 0, none⟩)) (ht5 : act.eval (.tmp 5) = .pointer (some ⟨n + 1 + 1 + 1, 0, none⟩)) (hdef : act.defers = [{ target := .collected D, args := #[] }])
    (k1 : W.cell? ⟨n + 1 + 1, 0, none⟩ = some v) (k2 : W.cell? ⟨n + 1 + 1 + 1, 0, none⟩ = some (.int .i64 er)) (hK : W.heap[D]? = some (.deferred (some []))) : bodyPostM Fence.wide 3 Tryz.prog Tryz.f63 R .ret act W := by
  obtain ⟨tm, df⟩ := act
  simp only at hdef
  subst hdef
  have t75 := Tryz.underlying75; have a75 := Tryz.isAgg75; have z75 := Tryz.sizeOf75; have t42 := Tryz.underlying42; have a42 := Tryz.isAgg42; have z42 := Tryz.sizeOf42
  refine ⟨by simp, .inl ⟨_, _, rfl, run_takeDeferred hK, ?_⟩⟩
  have e1 : (W.putObj D (.deferred none)).cell? ⟨n + 1 + 1, 0, none⟩ = some v := (World.cell?_of_block (World.putObj_heap_other (by simp; omega))).trans k1
  have e2 : (W.putObj D (.deferred none)).cell? ⟨n + 1 + 1 + 1, 0, none⟩ = some (.int .i64 er) := (World.cell?_of_block (World.putObj_heap_other (by simp; omega))).trans k2
  refine ⟨.tuple #[v, .int .i64 er], ?_, hR⟩
  simp only [Act.eval, Array.getD_eq_getD_getElem?] at ht4 ht5
  simp [results, Tryz.f63, go_sem, ht4, ht5, e1, e2]

theorem GoodS.on {imm : Nat → Nat → Prop} {w W W' : World} {a : Option Addr} {c : Nat} {S : List GSample} (h : GoodS imm w W a c S) (hb : ∀ b st, a = some ⟨b, st, none⟩ → S ≠ [] → W'.heap[b]? = W.heap[b]?) : GoodS imm w W' a c S :=
  ⟨h.at_.on hb, h.lies, h.cap, h.cap2⟩

theorem ap_fin {imm : Nat → Nat → Prop} {w W W' : World} {S : List GSample} {x : GSample} {r : List GSample × Int} {g q D : Nat} {act : Act} (hr : r = (S ++ [x], 0)) (h1 : Below w.heap.size w W) (h2 : w.drawn ≤ W.drawn) (hR : RegEnd w.heap.size x S W W' g q)
    (hK : W.heap[D]? = some (.deferred (some []))) (hD : w.heap.size + 1 + 1 + 1 < D)
    (ht4 : act.eval (.tmp 4) = .pointer (some ⟨w.heap.size + 1 + 1, 0, none⟩)) (ht5 : act.eval (.tmp 5) = .pointer (some ⟨w.heap.size + 1 + 1 + 1, 0, none⟩)) (hdef : act.defers = [{ target := .collected D, args := #[] }]) :
    bodyPostM Fence.wide 3 Tryz.prog Tryz.f63 (ApPost imm w r) .ret act W' := by
  have hDW : D < W.heap.size := (Array.getElem?_eq_some_iff.1 hK).1
  have hg := hR.g
  have hl : (S ++ [x]).length = S.length + 1 := by simp
  have hs := h1.size
  refine ap_end1 (D := D) (n := w.heap.size) (v := .slice (some ⟨g, 0, none⟩) (S.length + 1) q) (er := 0) ⟨some ⟨g, 0, none⟩, q, by rw [hr, hl], ?_, ?_⟩ hD ht4 ht5 hdef hR.r hR.e ((hR.other D hDW (by omega) (by omega)).trans hK)
  · rw [hr]
    refine ⟨hR.row.at_.on fun b st ha _ => ?_, fun b st ha j y _ => .inr ?_, by rw [hl]; exact hR.q1, hR.q2⟩
    · cases ha; exact World.putObj_heap_other (by omega)
    · cases ha; omega
  · refine ⟨⟨hR.os.trans h1.os, hR.tape.trans h1.tape, hR.output.trans h1.output, ?_, fun j hj => ?_⟩, Nat.le_trans h2 hR.drawn⟩
    · have := hR.size; simp; omega
    · exact (World.putObj_heap_other (by omega)).trans ((hR.other j (by omega) (by omega) (by omega)).trans (h1.block j hj))

set_option maxRecDepth 100000 in
set_option maxHeartbeats 2000000 in
theorem Append_in (imm : Nat → Nat → Prop) (a0 : Option Addr) (k0 c0 : Nat) (x : GSample) (S : List GSample) (hS : S.length ≤ 64) (bt bn : Bool) (r : List GSample × Int) (w : World)
    (hr1 : bt = false ∨ bn = false → r = (S, 2)) (hr2 : bt = true → bn = true → (S.getLast?.map fun y => decide (x.T ≤ y.T)).getD false = true → r = (S, 9)) (hr3 : bt = true → bn = true → (S.getLast?.map fun y => decide (x.T ≤ y.T)).getD false = false → r = ((if 64 ≤ S.length then S.drop 1 else S) ++ [x], 0))
    (hcount : ∀ W, W3 w W → Calls Tryz.prog 72 #[.slice a0 k0 c0] W fun e W' => ∃ a c, e = .returned (.slice a S.length c) ∧ GoodS imm w W' a c S ∧ (∀ b st, a = some ⟨b, st, none⟩ → S ≠ [] → b < W'.heap.size ∧ (b < w.heap.size ∨ W.heap.size ≤ b)) ∧ W3 W W')
    (htime : ∀ W, W3 w W → Calls Tryz.prog 66 #[.int .i64 x.T] W fun e W' => e = .returned (.bool bt) ∧ W3 W W')
    (hnum : ∀ W, W3 w W → Calls Tryz.prog 67 #[.int .i64 x.V] W fun e W' => e = .returned (.bool bn) ∧ W3 W W') :
    CallsIn Fence.wide 3 Tryz.prog 63 #[.slice a0 k0 c0, smV x] w (ApPost imm w r) := by
  refine callsIn_of_wp_marks Tryz.func63 rfl trivial ?_ rfl
  have t75 := Tryz.underlying75; have a75 := Tryz.isAgg75; have z75 := Tryz.sizeOf75; have t39 := Tryz.underlying39; have a39 := Tryz.isAgg39; have z39 := Tryz.sizeOf39; have t3 := Tryz.underlying3; have a3 := Tryz.isAgg3; have z3 := Tryz.sizeOf3; have t4 := Tryz.underlying4; have a4 := Tryz.isAgg4; have z4 := Tryz.sizeOf4; have t42 := Tryz.underlying42; have a42 := Tryz.isAgg42; have z42 := Tryz.sizeOf42
  simp only [Tryz.ntmps63, List.size_toArray, List.length_cons, List.length_nil, Nat.reduceAdd, Nat.reduceSub, Array.replicate_succ, Array.replicate_zero, List.push_toArray, List.append_toArray, List.nil_append, List.cons_append]
  unfold smV
  gi_wp2
  obtain ⟨w4, hw4⟩ : ∃ w4, w4 = (((w.alloc (.cells #[.slice a0 k0 c0] 75)).alloc (.cells #[.int .i64 x.T, .int .i64 x.V] 39)).alloc (.cells #[.slice none 0 0] 75)).alloc (.cells #[.int .i64 0] 42) := ⟨_, rfl⟩
  have hs4 : w4.heap.size = w.heap.size + 4 := by rw [hw4]; simp
  have hb4 : Below w.heap.size w w4 := by
    rw [hw4]
    exact ((((Below.refl _ w).alloc (Nat.le_refl _) _).alloc (by simp) _).alloc (by simp; omega) _).alloc (by simp; omega) _
  have hx0 : w4.heap[w.heap.size]? = some (.cells #[.slice a0 k0 c0] 75 (0, 0)) := by rw [hw4]; simp only [alloc_get, World.size_alloc]; (repeat' split) <;> first | rfl | (exfalso; omega) | (exfalso; simp_all; done)
  have hx1 : w4.heap[w.heap.size + 1]? = some (.cells #[.int .i64 x.T, .int .i64 x.V] 39 (0, 0)) := by rw [hw4]; simp only [alloc_get, World.size_alloc]; (repeat' split) <;> first | rfl | (exfalso; omega) | (exfalso; simp_all; done)
  have hx2 : w4.heap[w.heap.size + 1 + 1]? = some (.cells #[.slice none 0 0] 75 (0, 0)) := by rw [hw4]; simp only [alloc_get, World.size_alloc]; (repeat' split) <;> first | rfl | (exfalso; omega) | (exfalso; simp_all; done)
  have hx3 : w4.heap[w.heap.size + 1 + 1 + 1]? = some (.cells #[.int .i64 0] 42 (0, 0)) := by rw [hw4]; simp only [alloc_get, World.size_alloc]; (repeat' split) <;> first | rfl | (exfalso; omega) | (exfalso; simp_all; done)
  have hd4 : w4.drawn = w.drawn := by rw [hw4]; rfl
  have hw34 : W3 w w4 := ⟨hb4, by omega⟩
  have hB4 : Bx w.heap.size w4 (.slice a0 k0 c0) x :=
    ⟨by rw [cell_at hx0]; rfl, by simp [World.frozen?, hx0], by rw [cell_at hx1]; rfl, by rw [cell_at hx1]; rfl, by rw [cell_at hx2]; rfl, by simp [World.frozen?, hx2], by rw [cell_at hx3]; rfl, by simp [World.frozen?, hx3], by omega⟩
  clear hx0 hx1 hx2 hx3 hb4 hd4
  rw [← hw4]
  clear hw4
  refine ⟨trivial, (callsIn_wide.2 (hcount _ hw34)).mono ?_⟩
  rintro e W5 ⟨a, c, rfl, hgd, hab, h45⟩
  have hB5 := hB4.w3 h45
  have hw5 := hw34.trans h45
  have hs5 := h45.b.size
  clear hB4 hw34 h45 hcount
  obtain ⟨p1, p2, p3, p4, p5, p6, p7, p8, p9⟩ := hB5
  gi_wp2
  obtain ⟨W6, hW6⟩ : ∃ W6, W6 = W5.setCell ⟨w.heap.size, 0, none⟩ (.slice a S.length c) := ⟨_, rfl⟩
  have hB6 : Bx w.heap.size W6 (.slice a S.length c) x := by rw [hW6]; exact Bx.set ⟨p1, p2, p3, p4, p5, p6, p7, p8, p9⟩ _
  have hs6 : W6.heap.size = W5.heap.size := by rw [hW6]; simp
  have hw6 : W3 w W6 := by
    rw [hW6]
    exact ⟨hw5.b.setCell (by simp) _, by simpa using hw5.d⟩
  have hgd6 : GoodS imm w W6 a c S := hgd.on fun b st ha hne => by
    have hb := hab b st ha hne
    rw [hW6]; exact Below.heap_setCell _ _ _ _ (by show b ≠ w.heap.size; omega)
  have hab6 : ∀ b st, a = some ⟨b, st, none⟩ → S ≠ [] → b < W6.heap.size ∧ (b < w.heap.size ∨ w4.heap.size ≤ b) := fun b st ha hne => by
    rw [hs6]; exact hab b st ha hne
  rw [← hW6]
  clear hW6 hgd hab p1 p2 p3 p4 p5 p6 p7 p8 p9
  refine ⟨trivial, (callsIn_wide.2 (htime _ hw6)).mono ?_⟩
  rintro e W7 ⟨rfl, h67⟩
  have hB7 := hB6.w3 h67
  have hw7 := hw6.trans h67
  have hs7 := h67.b.size
  have hgd7 : GoodS imm w W7 a c S := hgd6.on fun b st ha hne => h67.b.block b (hab6 b st ha hne).1
  obtain ⟨p1, p2, p3, p4, p5, p6, p7, p8, p9⟩ := hB7
  clear htime hB6 h67
  have fin0 : ∀ {W8 : World}, Bx w.heap.size W8 (.slice a S.length c) x → W3 w W8 → GoodS imm w W8 a c S → (∀ b st, a = some ⟨b, st, none⟩ → S ≠ [] → b < w.heap.size ∨ w4.heap.size ≤ b) → r = (S, 2) →
      ApPost imm w r (.returned (.tuple #[.slice a S.length c, .int .i64 2])) ((W8.setCell ⟨w.heap.size + 1 + 1, 0, none⟩ (.slice a S.length c)).setCell ⟨w.heap.size + 1 + 1 + 1, 0, none⟩ (.int .i64 2)) ∧
      ((W8.setCell ⟨w.heap.size + 1 + 1, 0, none⟩ (.slice a S.length c)).setCell ⟨w.heap.size + 1 + 1 + 1, 0, none⟩ (.int .i64 2)).cell? ⟨w.heap.size + 1 + 1, 0, none⟩ = some (.slice a S.length c) ∧
      ((W8.setCell ⟨w.heap.size + 1 + 1, 0, none⟩ (.slice a S.length c)).setCell ⟨w.heap.size + 1 + 1 + 1, 0, none⟩ (.int .i64 2)).cell? ⟨w.heap.size + 1 + 1 + 1, 0, none⟩ = some (.int .i64 2) := by
    intro W8 hb hw hg hbl hr
    refine ⟨⟨a, c, by rw [hr], ?_, ⟨(hw.b.setCell (by simp; omega) _).setCell (by simp; omega) _, by simpa using hw.d⟩⟩, ?_, ?_⟩
    · rw [hr]
      refine hg.on fun b st ha hne => ?_
      have := hbl b st ha hne
      rw [Below.heap_setCell _ _ _ _ (by show b ≠ w.heap.size + 1 + 1 + 1; omega), Below.heap_setCell _ _ _ _ (by show b ≠ w.heap.size + 1 + 1; omega)]
    · rw [World.cell?_setCell_other _ _ _ _ (by intro e; injection e; omega), World.cell?_setCell_same' _ _ _ (by rw [hb.r]; rfl)]
    · rw [World.cell?_setCell_same' _ _ _ (by rw [World.cell?_setCell_other _ _ _ _ (by intro e; injection e; omega), hb.e]; rfl)]
  have hab7 : ∀ b st, a = some ⟨b, st, none⟩ → S ≠ [] → b < w.heap.size ∨ w4.heap.size ≤ b := fun b st ha hne => (hab6 b st ha hne).2
  cases bt
  · obtain ⟨q1, q2, q3⟩ := fin0 (Bx.mk p1 p2 p3 p4 p5 p6 p7 p8 p9) hw7 hgd7 hab7 (hr1 (.inl rfl))
    clear fin0
    gi_wp2
    refine ⟨trivial, ?_⟩
    gi_wp2
    exact ap_end0 q1 rfl rfl rfl q2 q3
  · gi_wp2
    refine ⟨trivial, (callsIn_wide.2 (hnum _ hw7)).mono ?_⟩
    rintro e W8 ⟨rfl, h78⟩
    have hB8 := (Bx.mk p1 p2 p3 p4 p5 p6 p7 p8 p9).w3 h78
    have hw8 := hw7.trans h78
    have hs8 := h78.b.size
    have hgd8 : GoodS imm w W8 a c S := hgd7.on fun b st ha hne => h78.b.block b (by have := (hab6 b st ha hne).1; omega)
    clear p1 p2 p3 p4 p5 p6 p7 p8 p9 hgd7 hgd6 hnum h78
    cases bn
    · obtain ⟨q1, q2, q3⟩ := fin0 hB8 hw8 hgd8 hab7 (hr1 (.inr rfl))
      clear fin0
      obtain ⟨p1, p2, p3, p4, p5, p6, p7, p8, p9⟩ := hB8
      gi_wp2
      exact ap_end0 q1 rfl rfl rfl q2 q3
    · have hB8' := hB8
      obtain ⟨p1, p2, p3, p4, p5, p6, p7, p8, p9⟩ := hB8
      have hlate : ∀ y, S.getLast? = some y → x.T ≤ y.T → r = (S, 9) := fun y hy h => hr2 (by first | trivial | rfl) (by first | trivial | rfl) (by rw [hy]; simpa using h)
      have hearly : (∀ y, S.getLast? = some y → y.T < x.T) → r = ((if 64 ≤ S.length then S.drop 1 else S) ++ [x], 0) := fun h => hr3 (by first | trivial | rfl) (by first | trivial | rfl) (by
        cases hl : S.getLast? with
        | none => rfl
        | some y => have := h y hl; simp; omega)
      clear fin0 hr1 hr2 hr3
      gi_wp2
      refine ⟨trivial, (backwards_in Fence.wide 2 trivial rfl a S.length c W8).mono ?_⟩
      rintro e W9 ⟨rfl, rfl⟩
      gi_wp2
      refine range_back (F := Fence.wide) (n := 3) rfl (by omega) trivial (B := W8.heap.size) (c := c) (ad := a) (S := S) rfl (by omega)
        (fun pre W => pre = [] ∧ Below (W8.heap.size + 1) (W8.alloc (.cells #[.slice a S.length c] 75)) W ∧ W8.drawn ≤ W.drawn)
        (fun cd pre W => Below w.heap.size w W ∧ w.drawn ≤ W.drawn ∧ GoodS imm w W a c S ∧ ((cd = .ret ∧ W.cell? ⟨w.heap.size + 1 + 1, 0, none⟩ = some (.slice a S.length c) ∧ W.cell? ⟨w.heap.size + 1 + 1 + 1, 0, none⟩ = some (.int .i64 9) ∧ r = (S, 9)) ∨
          (cd = .exit 0 ∧ Bx w.heap.size W (.slice a S.length c) x ∧ (∀ y, S.getLast? = some y → y.T < x.T) ∧ W8.heap.size ≤ W.heap.size)))
        ?hI ?hIx ?hrd ?h0 ?hround ?hdone ?hstop
      case hround =>
        rintro l pre y W o hl ⟨rfl, hB, hdr⟩ hlo hpre
        simp only [World.size_alloc] at hl
        have hlast : S.getLast? = some y := by
          obtain ⟨tl, htl⟩ := hpre
          rw [← List.head?_reverse, ← htl]; rfl
        have hk : ∀ k, k < W8.heap.size → W.heap[k]? = W8.heap[k]? := fun k hk => (hB.block k (by omega)).trans (Below.heap_alloc _ _ k hk)
        have hsW := hB.size
        simp only [World.size_alloc] at hsW
        have hlW := (Array.getElem?_eq_some_iff.1 hlo).1
        unfold smV
        gi_wp2
        refine ⟨⟨Below.heap_alloc _ _ _ (by omega), Below.heap_alloc _ _ _ (by omega)⟩, fun o' => ?_⟩
        obtain ⟨W2, hW2⟩ : ∃ W2, W2 = (W.alloc (.cells #[.int .i64 y.T, .int .i64 y.V] 39)).putObj l o' := ⟨_, rfl⟩
        have hk2 : ∀ k, k < W8.heap.size → W2.heap[k]? = W8.heap[k]? := fun k hk' => by
          rw [hW2]; exact (World.putObj_heap_other (by omega)).trans ((Below.heap_alloc _ _ k (by omega)).trans (hk k hk'))
        have hzN : W2.heap[W.heap.size]? = some (.cells #[.int .i64 y.T, .int .i64 y.V] 39 (0, 0)) := by
          rw [hW2]; exact (World.putObj_heap_other (by omega)).trans (World.alloc_heap_new W _)
        have hs2 : W8.heap.size ≤ W2.heap.size := by rw [hW2]; simp; omega
        have hB2 : Below W8.heap.size W8 W2 := by
          have h1 : Below W8.heap.size W8 W := ((Below.refl _ W8).alloc (Nat.le_refl _) _).trans (hB.mono (by omega))
          rw [hW2]
          exact (h1.alloc (by omega) _).trans ⟨rfl, rfl, rfl, by simp, fun k hk => World.putObj_heap_other (by omega)⟩
        have hd2 : W2.drawn = W.drawn := by rw [hW2]; rfl
        have hw82 : W3 W8 W2 := ⟨hB2, by omega⟩
        have hw2 := hw8.trans hw82
        have hbx := hB8'.w3 hw82
        have hg2 : GoodS imm w W2 a c S := hgd8.on fun b st ha hne => hk2 b (by have := (hab6 b st ha hne).1; omega)
        rw [← hW2]
        have cN0 := cell_at hzN 0
        simp at cN0
        have q10 := hlate y hlast
        clear hW2 hB hlo hzN hk hk2 hB2
        obtain ⟨p1, p2, p3, p4, p5, p6, p7, p8, p9⟩ := hbx
        gi_wp2
        · rename_i h
          refine ⟨⟨?_, ?_⟩, (hw2.b.setCell (by simp; omega) _).setCell (by simp; omega) _, by simpa using hw2.d, hg2.on (fun b st ha hne => ?_), .inl ⟨rfl, ?_, ?_, q10 h⟩⟩
          · rw [Below.heap_setCell _ _ _ _ (by simp; omega), Below.heap_setCell _ _ _ _ (by simp; omega)]
          · rw [Below.heap_setCell _ _ _ _ (by simp; omega), Below.heap_setCell _ _ _ _ (by simp; omega)]
          · have := hab7 b st ha hne
            rw [Below.heap_setCell _ _ _ _ (by show b ≠ w.heap.size + 1 + 1 + 1; omega), Below.heap_setCell _ _ _ _ (by show b ≠ w.heap.size + 1 + 1; omega)]
          · rw [World.cell?_setCell_other _ _ _ _ (by intro e; injection e; omega), World.cell?_setCell_same' _ _ _ (by rw [p5]; rfl)]
          · rw [World.cell?_setCell_same' _ _ _ (by rw [World.cell?_setCell_other _ _ _ _ (by intro e; injection e; omega), p7]; rfl)]
        · rename_i h
          exact ⟨⟨rfl, rfl⟩, hw2.b, hw2.d, hg2, .inr ⟨rfl, ⟨p1, p2, p3, p4, p5, p6, p7, p8, p9⟩, fun z hz => by rw [hlast] at hz; cases hz; omega, hs2⟩⟩
      case hI =>
        rintro pre W l o hl ⟨h1, h2, h3⟩
        simp only [World.size_alloc] at hl
        exact ⟨h1, h2.trans ⟨rfl, rfl, rfl, by simp, fun k hk => World.putObj_heap_other (by omega)⟩, h3⟩
      case hrd =>
        rintro pre W ⟨_, h2, _⟩
        have hB : W.heap[W8.heap.size]? = some (.cells #[.slice a S.length c] 75 (0, 0)) := (h2.block _ (by omega)).trans (World.alloc_heap_new W8 _)
        refine ⟨by rw [cell_at hB]; rfl, hgd8.at_.on fun b st ha hne => ?_⟩
        have hbl := (hab6 b st ha hne).1
        exact (h2.block _ (by omega)).trans (Below.heap_alloc _ _ b (by omega))
      case h0 =>
        intro o o'
        exact ⟨rfl, ((Below.refl _ _).alloc (by simp) _).alloc (by simp) _, Nat.le_refl _⟩
      case hIx =>
        rintro cd pre W l o hl ⟨h1, h2, h3, h4⟩
        simp only [World.size_alloc] at hl
        have hbel : Below W8.heap.size W (W.putObj l o) := ⟨rfl, rfl, rfl, by simp, fun k hk => World.putObj_heap_other (by omega)⟩
        refine ⟨h1.trans (hbel.mono (by omega)), h2, h3.on (fun b st ha hne => hbel.block b (by have := (hab6 b st ha hne).1; omega)), ?_⟩
        rcases h4 with ⟨e, k1, k2, k3⟩ | ⟨e, k1, k2, k3⟩
        · exact .inl ⟨e, (hbel.cell (p := ⟨_, _, none⟩) (by simp; omega)).trans k1, (hbel.cell (p := ⟨_, _, none⟩) (by simp; omega)).trans k2, k3⟩
        · exact .inr ⟨e, k1.below hbel (by omega), k2, by simpa using k3⟩
      case hstop =>
        rintro D cd pre W hD hpre ⟨h1, h2, h3, (⟨rfl, k1, k2, k3⟩ | ⟨rfl, k1, k2, k3⟩)⟩ hK
        · simp only [World.size_alloc] at hD
          gi_wp2
          refine ap_end1 (D := D) (n := w.heap.size) (v := .slice a S.length c) (er := 9) ⟨a, c, by rw [k3], ?_, ⟨h1.trans ⟨rfl, rfl, rfl, by simp, fun k hk => World.putObj_heap_other (by omega)⟩, h2⟩⟩ (by omega) rfl rfl rfl k1 k2 hK
          rw [k3]
          exact h3.on fun b st ha hne => World.putObj_heap_other (by have := (hab6 b st ha hne).1; omega)
        · simp only [World.size_alloc] at hD
          obtain ⟨p1, p2, p3, p4, p5, p6, p7, p8, p9⟩ := k1
          gi_wp2
          · exfalso; have := h3.cap; omega
          · rename_i K hKc
            have hne : S ≠ [] := by intro e; have : S.length = 0 := (by rw [e]; rfl); omega
            have hl1 : S.length - 1 = (S.drop 1).length := by simp
            obtain ⟨b, st, ha, hc⟩ : ∃ b st, a = some ⟨b, st, none⟩ ∧ ∀ j y, S[j]? = some y → W.cell? ⟨b, st + j * 2, none⟩ = some (.int .i64 y.T) ∧ W.cell? ⟨b, st + j * 2 + 1, none⟩ = some (.int .i64 y.V) := h3.at_.resolve_left hne
            have hbl := hab7 b st ha hne
            have hb8 := (hab6 b st ha hne).1
            subst ha
            rw [wpIn_wide, hl1]
            simp only [Option.map_some]
            have hWk : ∀ k u, k ≠ w.heap.size → (W.setCell ⟨w.heap.size, 0, none⟩ u).heap[k]? = W.heap[k]? := fun k u hk => Below.heap_setCell _ _ _ _ (by simpa using hk)
            refine ap_region (S := S.drop 1) (n := w.heap.size) rfl (by rw [List.length_drop]; omega) (Bx.set ⟨p1, p2, p3, p4, p5, p6, p7, p8, p9⟩ _) (.inr ⟨b, st + 2, rfl, fun j y hj => ?b2⟩) (fun b' st' ha hne => ?b3) _ _ _ _ _ _ _ _ _ _ _ _ _ _ _ _ _ _ _ _ _ _ _ _ _ _ _ _ _ _ _ _ _ _ _ _ ?b4
            case b2 =>
              rw [List.getElem?_drop] at hj
              have := hc (1 + j) y hj
              rw [show st + 2 + j * 2 = st + (1 + j) * 2 from by omega]
              exact ⟨(World.cell?_of_block (hWk b _ (by omega))).trans this.1, (World.cell?_of_block (hWk b _ (by omega))).trans this.2⟩
            case b3 => cases ha; simp; omega
            case b4 =>
              intro act' W' g q e4 e5 ed hR
              refine hKc _ _ ?_
              gi_wp2
              exact ap_fin (by rw [hearly k2, if_pos (by omega)]) (h1.setCell (by simp) _) (by simpa using h2) hR ((hWk D _ (by omega)).trans hK) (by omega) e4 e5 ed
          · rename_i K hKc
            rw [wpIn_wide]
            refine ap_region (S := S) (n := w.heap.size) rfl hS ⟨p1, p2, p3, p4, p5, p6, p7, p8, p9⟩ h3.at_ (fun b st ha hne => by have := (hab6 b st ha hne).1; omega) _ _ _ _ _ _ _ _ _ _ _ _ _ _ _ _ _ _ _ _ _ _ _ _ _ _ _ _ _ _ _ _ _ _ _ _ ?_
            intro act' W' g q e4 e5 ed hR
            refine hKc _ _ ?_
            gi_wp2
            exact ap_fin (by rw [hearly k2, if_neg (by omega)]) h1 h2 hR hK (by omega) e4 e5 ed
      case hdone =>
        rintro D W hD ⟨hSr, hB, hdr⟩ hK
        simp only [World.size_alloc] at hD
        have h0 : S = [] := by simpa using hSr
        have hnl : ∀ y, S.getLast? = some y → y.T < x.T := fun y hy => by rw [h0] at hy; cases hy
        have hw8W : W3 W8 W := ⟨((Below.refl _ W8).alloc (Nat.le_refl _) _).trans (hB.mono (by omega)), hdr⟩
        have h12 := hw8.trans hw8W
        have h1 := h12.b
        have h2 := h12.d
        have h3 : GoodS imm w W a c S := hgd8.on fun b st ha hne => absurd h0 hne
        have k3 := hw8W.b.size
        have hbx := hB8'.w3 hw8W
        have k2 := hnl
        have hl0 : S.length = 0 := by rw [h0]; rfl
        clear hnl hSr hB h0
        obtain ⟨p1, p2, p3, p4, p5, p6, p7, p8, p9⟩ := hbx
        gi_wp2
        · rename_i K hKc
          rw [wpIn_wide]
          refine ap_region (S := S) (n := w.heap.size) rfl hS ⟨p1, p2, p3, p4, p5, p6, p7, p8, p9⟩ h3.at_ (fun b st ha hne => by have := (hab6 b st ha hne).1; omega) _ _ _ _ _ _ _ _ _ _ _ _ _ _ _ _ _ _ _ _ _ _ _ _ _ _ _ _ _ _ _ _ _ _ _ _ ?_
          intro act' W' g q e4 e5 ed hR
          refine hKc _ _ ?_
          gi_wp2
          exact ap_fin (by rw [hearly k2, if_neg (by omega)]) h1 h2 hR hK (by omega) e4 e5 ed
end Go.Proofs.YtcpjmkbcefmldaaGreatDoor.AM

/- series.Append: its contract. -/
namespace Go.Proofs.YtcpjmkbcefmldaaGreatDoor.AM
open Go Go.RowKit Go.Proofs

theorem samp_lies {G : Ghost} {W : World} {c : List GSample} {v : Value} (h : Conc G W (sl cGSample c) v) : ∃ a k, v = .slice a c.length k ∧ SampAt W a c ∧ c.length ≤ k ∧ k ≤ maxLen ∧
    ∀ b st, a = some ⟨b, st, none⟩ → ∀ j x, c[j]? = some x → G.imm b (st + j * 2) ∧ G.imm b (st + j * 2 + 1) := by
  cases h with
  | sl _ _ _ hd _ =>
  obtain ⟨a, k, rfl, hk1, hk2, hor⟩ := hd
  rw [List.length_map] at hk1
  refine ⟨a, k, by rw [List.length_map], ?_, hk1, hk2, ?_⟩
  · rcases hor with h | ⟨b, st, sz, ha, hr⟩
    · left; simpa using h
    · right
      refine ⟨b, st, ha, fun j x hj => ?_⟩
      have hrow : (c.map cGSample)[j]? = some (cGSample x) := by rw [List.getElem?_map, hj]; rfl
      have hsz : sz = 2 := by rw [← hr.1 j _ hrow]; rfl
      subst hsz
      obtain ⟨v1, h1, _, d1⟩ := hr.2 j 0 _ (.v (.int .i64 x.T)) hrow rfl
      obtain ⟨v2, h2, _, d2⟩ := hr.2 j 1 _ (.v (.int .i64 x.V)) hrow rfl
      cases d1; cases d2
      exact ⟨h1, h2⟩
  · intro b st ha j x hj
    have hrow : (c.map cGSample)[j]? = some (cGSample x) := by rw [List.getElem?_map, hj]; rfl
    rcases hor with h | ⟨b', st', sz, ha', hr⟩
    · rw [h] at hrow; simp at hrow
    · rw [ha] at ha'; cases ha'
      have hsz : sz = 2 := by rw [← hr.1 j _ hrow]; rfl
      subst hsz
      obtain ⟨v1, _, h1, _⟩ := hr.2 j 0 _ (.v (.int .i64 x.T)) hrow rfl
      obtain ⟨v2, _, h2, _⟩ := hr.2 j 1 _ (.v (.int .i64 x.V)) hrow rfl
      exact ⟨h1, h2⟩

theorem count_good {G : Ghost} {w : World} (hm : Mem G [] w) {s c : List GSample} (hc : series_counted s = some c) {v : Value} (hv : Conc G w (sl cGSample s) v) : ∀ W, W3 w W → Calls Tryz.prog 72 #[v] W fun e W' =>
    ∃ a k, e = .returned (.slice a c.length k) ∧ GoodS G.imm w W' a k c ∧ (∀ b st, a = some ⟨b, st, none⟩ → c ≠ [] → b < W'.heap.size ∧ (b < w.heap.size ∨ W.heap.size ≤ b)) ∧ W3 W W' := by
  intro W hW
  obtain ⟨hmW, hst⟩ := mem_on hm hW
  refine (series_counted_run hc G W [v] hmW ⟨rfl, fun i x u hx hu => ?_⟩).mono ?_
  · match i, hx, hu with
    | 0, hx, hu => cases hx; cases hu; exact hv.mono hst.ext
    | i + 1, hx, _ => simp at hx
  · rintro e W' ⟨ae, o, G', ⟨rfl, rfl⟩, hm', hst', hend⟩
    cases e with
    | returned u =>
      obtain ⟨a, k, rfl, h1, h2, h3, h4⟩ := samp_lies hend
      have hbl : G.bl = [] := List.length_eq_zero_iff.1 hm.len
      have hi : ∀ b o, G'.imm b o → G.imm b o ∨ W.heap.size ≤ b := fun b o h => by
        rcases hst'.imm2 b o h with h | h | ⟨o, g, h, _⟩
        · exact .inl h
        · exact .inr h
        · rw [hbl] at h; simp at h
      have hs := hW.b.size
      refine ⟨a, k, rfl, ⟨h1, fun b st ha j x hj => ?_, h2, h3⟩, fun b st ha hne => ?_, w3_of hmW hst'⟩
      · obtain ⟨i1, i2⟩ := h4 b st ha j x hj
        rcases hi _ _ i1 with i1 | i1
        · rcases hi _ _ i2 with i2 | i2
          · exact .inl ⟨i1, i2⟩
          · exact .inr (by omega)
        · exact .inr (by omega)
      · obtain ⟨x, hx⟩ : ∃ x, c[0]? = some x := by
          cases c with
          | nil => exact absurd rfl hne
          | cons x l => exact ⟨x, rfl⟩
        obtain ⟨i1, _⟩ := h4 b st ha 0 x hx
        refine ⟨hm'.immLt.1 _ _ i1, ?_⟩
        rcases hi _ _ i1 with i1 | i1
        · exact .inl (hm.immLt.1 _ _ i1)
        · exact .inr i1
    | panicked ch => exact hend.elim
    | outgrown => exact hend.elim
theorem bool_calls {f : Nat} {x : Int} {b : Bool} (h : Fun Tryz.prog f [vI x] (vB b) []) {G : Ghost} {w : World} (hm : Mem G [] w) : ∀ W, W3 w W → Calls Tryz.prog f #[.int .i64 x] W fun e W' => e = .returned (.bool b) ∧ W3 W W' := by
  intro W hW
  obtain ⟨hmW, hst⟩ := mem_on hm hW
  refine (h G W [.int .i64 x] hmW ⟨rfl, fun i y u hx hu => ?_⟩).mono ?_
  · match i, hx, hu with
    | 0, hx, hu => cases hx; cases hu; exact .v _ rfl
    | i + 1, hx, _ => simp at hx
  · rintro e W' ⟨ae, o, G', ⟨rfl, rfl⟩, hm', hst', hend⟩
    cases e with
    | returned u => have := conc_v' hend; exact ⟨by rw [this], w3_of hmW hst'⟩
    | panicked ch => exact hend.elim
    | outgrown => exact hend.elim
theorem gdM_some {β : Type} {p : Prop} [Decidable p] {m : Option β} {r : β} (h : gdM p m = some r) : m = some r := by
  unfold gdM at h
  by_cases hp : p
  · simpa only [if_pos hp] using h
  · simp only [if_neg hp] at h; cases h
theorem cloneS_eq {s d : List GSample} (h : slices_Clone_Sample_Sample s = some d) : d = s := by
  unfold slices_Clone_Sample_Sample at h
  have h := gdM_some (show gdM _ _ = some d from (nil_of h).1)
  have h : some ([] ++ s) = some d := h
  cases h; rfl
theorem series_Append_run {s : List GSample} {x : GSample} {r : List GSample × Int} (h : series_Append s x = some r) : Fun Tryz.prog 63 [sl cGSample s, ag cGSample x] (.tup [sl cGSample r.1, vI r.2]) [] := by
  unfold series_Append at h
  obtain ⟨c, hc, h⟩ := Option.bind_eq_some_iff.1 h
  obtain ⟨bt, ht, h⟩ := Option.bind_eq_some_iff.1 h
  obtain ⟨bn, hn, h⟩ := Option.bind_eq_some_iff.1 h
  have hl := counted_len hc
  intro G wd vs hm hcv
  obtain ⟨hvl, hcv⟩ := hcv
  match vs, hvl, hcv with
  | [v1, v2], _, hcv =>
    have h1 := hcv 0 _ v1 rfl rfl
    have h2 := hcv 1 _ v2 rfl rfl
    obtain ⟨a0, k0, c0, rfl⟩ : ∃ a k c, v1 = .slice a k c := by
      obtain ⟨a, k, hv, _⟩ := samp_lies h1
      exact ⟨_, _, _, hv⟩
    have e2 : v2 = smV x := by
      cases h2 with
      | agg cs vs hl h1 h =>
        match vs, hl, h with
        | [u1, u2], _, h =>
          have q1 := conc_v' (h 0 (vI x.T) u1 rfl rfl)
          have q2 := conc_v' (h 1 (vI x.V) u2 rfl rfl)
          subst q1; subst q2; rfl
    subst e2
    refine (callsIn_wide.1 (Append_in G.imm a0 k0 c0 x c hl bt bn r wd ?_ ?_ ?_ (count_good hm hc h1) (bool_calls (series_time_run ht) hm) (bool_calls (num_Sane_run hn) hm))).mono ?_
    · intro hb
      rw [if_neg (by rcases hb with hb | hb <;> rw [hb] <;> simp)] at h
      cases h; rfl
    · intro e1 e2 e3
      rw [e1, e2, e3] at h
      cases h; rfl
    · intro e1 e2 e3
      rw [e1, e2, e3] at h
      obtain ⟨d, hd, h⟩ := Option.bind_eq_some_iff.1 h
      rw [cloneS_eq hd] at h
      have h := gdM_some h
      cases h; rfl
    · rintro e w' ⟨a, q, rfl, hg, hw⟩
      have hmore : More wd w' := ⟨hw.b.block, hw.b.size, hw.b.os, hw.b.tape, ⟨hw.b.output, hw.d⟩⟩
      obtain ⟨hst, hm'⟩ := More.step hm hmore (imm' := fun b off => G.imm b off ∨ (wd.heap.size ≤ b ∧ b < w'.heap.size)) (fun _ _ h => .inl h) (fun _ _ h => h)
      refine ⟨_, _, _, ⟨rfl, rfl⟩, hm', hst, ?_⟩
      refine Conc.tup [sl cGSample r.1, vI r.2] [.slice a r.1.length q, .int .i64 r.2] rfl fun i y u hx hu => ?_
      match i, hx, hu with
      | 0, hx, hu =>
        cases hx; cases hu
        refine Conc.sl (r.1.map cGSample) .none _ ⟨a, q, by rw [List.length_map], by rw [List.length_map]; exact hg.cap, hg.cap2, ?_⟩ trivial
        rcases hg.at_ with h0 | ⟨b, st, ha, hcell⟩
        · left; rw [h0]; rfl
        · right
          refine ⟨b, st, 2, ha, fun i row hrow => ?_, fun i j row d hrow hd => ?_⟩
          · rw [List.getElem?_map] at hrow
            obtain ⟨y, _, rfl⟩ := Option.map_eq_some_iff.1 hrow
            rfl
          · rw [List.getElem?_map] at hrow
            obtain ⟨y, hy, rfl⟩ := Option.map_eq_some_iff.1 hrow
            obtain ⟨c1, c2⟩ := hcell i y hy
            have hblk : b < w'.heap.size := cell_lt c1
            have hi := hg.lies b st ha i y hy
            match j, hd with
            | 0, hd =>
              cases hd
              exact ⟨_, c1, hi.elim (fun h => .inl h.1) (fun h => .inr ⟨h, hblk⟩), .v _ rfl⟩
            | 1, hd =>
              cases hd
              exact ⟨_, c2, hi.elim (fun h => .inl h.2) (fun h => .inr ⟨h, hblk⟩), .v _ rfl⟩
            | j + 2, hd => simp [cGSample] at hd
      | 1, hx, hu => cases hx; cases hu; exact .v _ rfl
      | i + 2, hx, hu => simp at hu
end Go.Proofs.YtcpjmkbcefmldaaGreatDoor.AM

/- series.At and series.Append: by hand. -/
