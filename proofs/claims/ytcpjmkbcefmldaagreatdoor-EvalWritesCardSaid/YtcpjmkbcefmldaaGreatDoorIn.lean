/- A part of the proof: In0, In. -/
import Derived.Test.YtcpjmkbcefmldaaGreatDoorX2
import Derived.Test.YtcpjmkbcefmldaaGreatDoorProg
import Derived.Shelf.Spec.SlicesInsertGrow
import Derived.Test.YtcpjmkbcefmldaaGreatDoorMd
set_option linter.all false
/- slices.Insert, walked. -/
namespace Go.Proofs.YtcpjmkbcefmldaaGreatDoor.AM
open Go Go.RowKit Go.Proofs Go.Lib

def insAr (sz i n : Nat) (cur : Array Value) : List Value := cur.toList.take ((i + 1) * sz) ++ (cur.toList.drop (i * sz)).take ((n - i) * sz) ++ cur.toList.drop ((i + 1) * sz + (n - i) * sz)
def insBr (sz i : Nat) (A xs : List Value) : List Value := A.take (i * sz) ++ xs ++ A.drop (i * sz + sz)

set_option maxHeartbeats 4000000 in
set_option maxRecDepth 100000 in
theorem ins_shift (b n c i vb voff vc kA : Nat) (tA : TypeId) (cur : Array Value) (xs : List Value) (w : World) (e : TypeId) (hi : i < n) (hroom : n + 1 ≤ c) (hc63 : c ≤ 9223372036854775807) (hvb : vb ≠ b)
    (hg : w.heap[b]? = some (.cells cur e (0, 0))) (hcs : cur.size = c * 2) (hxl : xs.length = 2) (hvs : ∀ j v, xs[j]? = some v → w.cell? ⟨vb, voff + j, none⟩ = some v) (h1c : ∀ v ∈ cur.toList.take (n * 2), v.oneCell' = true) (h1v : ∀ v ∈ xs, v.oneCell' = true)
    (hsa : w.shape? vb = some (tA, kA)) (hkA : kA ≠ 0) :
    Calls Tryz.prog 65 #[.slice (some ⟨b, 0, none⟩) n c, .int .i64 i, .slice (some ⟨vb, voff, none⟩) 1 vc] w fun e w' =>
      e = .returned (.slice (some ⟨b, 0, none⟩) (n + 1) c) ∧ w' = (w.drew.setRow b (insAr 2 i n cur).toArray).setRow b (insBr 2 i (insAr 2 i n cur) xs).toArray := by
  have t22 := Tryz.underlying22; have a22 := Tryz.isAgg22; have z22 := Tryz.sizeOf22; have t3 := Tryz.underlying3; have a3 := Tryz.isAgg3; have z3 := Tryz.sizeOf3; have t4 := Tryz.underlying4; have a4 := Tryz.isAgg4; have z4 := Tryz.sizeOf4; have z77 := Tryz.sizeOf77
  have u22 := run_underlying Tryz.underlying22; have u3 := run_underlying Tryz.underlying3; have u4 := run_underlying Tryz.underlying4
  have hz2 : ¬ ((i : Int) = (n : Int)) := by omega
  obtain ⟨i0, hi0, hsz⟩ : ∃ i0, Tryz.prog.info? 77 = some i0 ∧ i0.size = 2 := ⟨(Tryz.prog.info? 77).get!, by kernel_rfl, by kernel_rfl⟩
  have hov : ∀ lb cb, (callFunc 87 #[.slice (some ⟨vb, voff, none⟩) 1 vc, .slice (some ⟨b, (i + 1) * 2, none⟩) lb cb]).run Tryz.prog w = .ok (.value (.bool false)) w := fun lb cb => by
    rw [run_callFunc_extern Tryz.func87 (by kernel_rfl) (by kernel_rfl) (by kernel_rfl) (e := Extern.SlicesOverlaps.overlaps #[22, 22] #[4]) (by kernel_rfl),
      run_apart w 22 4 77 Tryz.underlying22 2 Tryz.sizeOf77 ⟨vb, voff, none⟩ ⟨b, (i + 1) * 2, none⟩ 1 vc lb cb hvb tA e kA cur.size hsa hkA (by simp [World.shape?, hg]) (by omega) (fun off s => by simp [World.frozen?, hg])]
    rfl
  have hdl : ((cur.toList.drop (i * 2)).take ((n - i) * 2)).length = (n - i) * 2 := by rw [List.length_take, List.length_drop, Array.length_toList]; omega
  have hmn : Nat.min (n + 1 - i) (n - i) = n - i := by show min _ _ = _; omega
  have hmn2 : Nat.min 1 (n + 1 - i) = 1 := by show min _ _ = _; omega
  have mixed : Tryz.prog.follows .mixedOrders = true := by kernel_rfl
  have hw1 : IntKind.i64.wrap ((i : Int) + 1) = (i : Int) + 1 := by rw [IntKind.wrap_i64]; omega
  have hw2 : IntKind.i64.wrap ((n : Int) + 1) = (n : Int) + 1 := by rw [IntKind.wrap_i64]; omega
  have hb1 : (0 : Int) ≤ (i : Int) + 1 := by omega
  have hin : i ≤ n := by omega
  have htn : ((i : Int) + 1).toNat = i + 1 := by omega
  have hb2 : ¬ (c = i + 1) := by omega
  have hb3 : (i : Int) ≤ (n : Int) + 1 := by omega
  have hb4 : ¬ (c = i) := by omega
  have hcp1 : ∀ ty dc sc, (Builtin.copy_ #[22, 22] ty #[.slice (some ⟨b, (i + 1) * 2, none⟩) (n - i) dc, .slice (some ⟨b, i * 2, none⟩) (n + 1 - i) sc]).run Tryz.prog w.drew = .ok (goInt ((n - i : Nat) : Int)) (w.drew.setRow b (insAr 2 i n cur).toArray) := fun ty dc sc => by
    have := run_copyK w.drew 22 22 ty 77 i0 Tryz.underlying22 hi0 b ((i + 1) * 2) (n - i) dc (n + 1 - i) ⟨b, i * 2, none⟩ sc ((cur.toList.drop (i * 2)).take ((n - i) * 2)) cur e
      (by rw [hdl, hsz, hmn]) (fun j v hj => by
        rw [Addr.add_lit, cell_at (w := w.drew) (show w.drew.heap[b]? = _ from hg)]
        rw [List.getElem?_take] at hj
        split at hj
        · rw [List.getElem?_drop, Array.getElem?_toList] at hj; exact hj
        · cases hj) hg (by rw [hdl]; omega) (fun v hv => h1c v (by
        rw [show (n - i) * 2 = n * 2 - i * 2 from by omega, ← List.drop_take] at hv
        exact List.mem_of_mem_drop hv))
    rw [hmn, hdl] at this
    exact this
  obtain ⟨W1, hW1⟩ : ∃ W1, W1 = w.drew.setRow b (insAr 2 i n cur).toArray := ⟨_, rfl⟩
  have hAl : (insAr 2 i n cur).length = cur.size := by simp only [insAr, List.length_append, List.length_take, List.length_drop, Array.length_toList]; omega
  have hW1h : W1.heap[b]? = some (.cells (insAr 2 i n cur).toArray e (0, 0)) := by rw [hW1]; exact setRow_heap w.drew b cur _ e (0, 0) hg
  have hcp2 : ∀ ty dc, (Builtin.copy_ #[22, 22] ty #[.slice (some ⟨b, i * 2, none⟩) (n + 1 - i) dc, .slice (some ⟨vb, voff, none⟩) 1 vc]).run Tryz.prog W1 = .ok (goInt 1) (W1.setRow b (insBr 2 i (insAr 2 i n cur) xs).toArray) := fun ty dc => by
    have := run_copyK W1 22 22 ty 77 i0 Tryz.underlying22 hi0 b (i * 2) (n + 1 - i) dc 1 ⟨vb, voff, none⟩ vc xs (insAr 2 i n cur).toArray e
      (by rw [hxl, hsz, hmn2]) (fun j v hj => by
        rw [Addr.add_lit, hW1, cell_of_heap (setRow_other w.drew b vb _ hvb) _]
        exact hvs j v hj) hW1h (by rw [hxl, List.size_toArray, hAl, hcs]; omega) h1v
    rw [hmn2, hxl] at this
    exact this
  subst hW1
  go_enter Tryz.func65, Tryz.ntmps65
  go_wp2_with (simp only [hov])
  go_region_law_o (refine step_copy_runI rfl _ _ 22 22 rfl _ _ (by simp [Act.eval, Act.put]) (by simp [Act.eval, Act.put]) (hcp1 _ _ _) ?_)
  go_wp2_with (at_builtin; refine wpList_copy_runI _ rfl _ _ 22 22 rfl _ _ rfl rfl (hcp2 _ _) ?_)
  go_ret
  first | exact ⟨rfl, rfl⟩ | exact ⟨rfl, by simp only [List.append_assoc]⟩
set_option maxHeartbeats 4000000 in
set_option maxRecDepth 100000 in
theorem ins_end_room (b n c vb voff vc : Nat) (cur : Array Value) (xs : List Value) (w : World) (hroom : n + 1 ≤ c) (hc63 : c ≤ 9223372036854775807)
    (hg : w.heap[b]? = some (.cells cur 77 (0, 0))) (hcs : cur.size = c * 2) (hxl : xs.length = 2) (hvs : ∀ j v, xs[j]? = some v → w.cell? ⟨vb, voff + j, none⟩ = some v) (h1v : OneL xs) :
    Calls Tryz.prog 65 #[.slice (some ⟨b, 0, none⟩) n c, .int .i64 n, .slice (some ⟨vb, voff, none⟩) 1 vc] w fun e w' =>
      e = .returned (.slice (some ⟨b, 0, none⟩) (n + 1) c) ∧ w' = w.setRow b (cur.toList.take (n * 2) ++ xs ++ cur.toList.drop (n * 2 + 2)).toArray := by
  have t22 := Tryz.underlying22; have a22 := Tryz.isAgg22; have z22 := Tryz.sizeOf22; have t3 := Tryz.underlying3; have a3 := Tryz.isAgg3; have z3 := Tryz.sizeOf3; have t4 := Tryz.underlying4; have a4 := Tryz.isAgg4; have z4 := Tryz.sizeOf4; have z77 := Tryz.sizeOf77
  have u22 := run_underlying Tryz.underlying22; have u3 := run_underlying Tryz.underlying3; have u4 := run_underlying Tryz.underlying4
  obtain ⟨i0, hi0, hsz⟩ : ∃ i0, Tryz.prog.info? 77 = some i0 ∧ i0.size = 2 := ⟨(Tryz.prog.info? 77).get!, by kernel_rfl, by kernel_rfl⟩
  have mixed : Tryz.prog.follows .mixedOrders = true := by kernel_rfl
  have hfc : (Builtin.firstCells i0.size 1 (.slice (some ⟨vb, voff, none⟩) 1 vc)).run Tryz.prog w = .ok xs.toArray w := run_firstCells_some w _ 1 _ 1 vc xs (by rw [hxl, hsz]) (fun j v hj => by rw [Addr.add_lit]; exact hvs j v hj)
  have hrun : ∀ ty, (Builtin.append_ #[22, 22] ty #[.slice (some ⟨b, 0, none⟩) n c, .slice (some ⟨vb, voff, none⟩) 1 vc]).run Tryz.prog w = .ok (.slice (some ⟨b, 0, none⟩) (n + 1) c) (w.setRow b (cur.toList.take (n * 2) ++ xs ++ cur.toList.drop (n * 2 + 2)).toArray) := fun ty => by
    have := append_room (P := Tryz.prog) w 22 22 ty 77 i0 Tryz.underlying22 _ Tryz.underlying22 (.inl rfl) hi0 (.slice (some ⟨vb, voff, none⟩) 1 vc) 1 (fun _ => rfl) xs b n c cur hg hfc h1v hroom (by rw [hxl, hsz, hcs]; omega)
    rw [hsz, hxl] at this
    exact this
  go_enter Tryz.func65, Tryz.ntmps65
  go_wp2_with (at_builtin; refine Lib.wpList_append_run _ rfl _ _ _ _ rfl _ _ rfl rfl _ _ (hrun _) ?_)
  go_ret
  first | exact ⟨rfl, rfl⟩ | exact ⟨rfl, by simp only [List.append_assoc]⟩

set_option maxHeartbeats 4000000 in
set_option maxRecDepth 100000 in
theorem ins_end_grow (base : Option Addr) (n c vb voff vc : Nat) (olds xs : List Value) (w : World) (hnc : n ≤ c) (hroom : c < n + 1) (hbig : (n + 1) * 48 ≤ 140737488355328)
    (hol : olds.length = n * 2) (hnil : base = none → n = 0) (hos : ∀ a, base = some a → a.off = 0 ∧ a.spot = none ∧ ∀ j v, olds[j]? = some v → w.cell? (a.add j) = some v)
    (hxl : xs.length = 2) (hvs : ∀ j v, xs[j]? = some v → w.cell? ⟨vb, voff + j, none⟩ = some v) :
    Calls Tryz.prog 65 #[.slice base n c, .int .i64 n, .slice (some ⟨vb, voff, none⟩) 1 vc] w fun e w' =>
      e = .returned (.slice (some ⟨w.heap.size, 0, none⟩) (n + 1) (grownCap w (n + 1) c 77)) ∧
      ∃ z : Array Value, z.size = 2 ∧ w' = w.drew.alloc (.cells (olds.toArray ++ xs.toArray ++ Builtin.zeroCells z (grownCap w (n + 1) c 77 - (n + 1))) 77) := by
  have t22 := Tryz.underlying22; have a22 := Tryz.isAgg22; have z22 := Tryz.sizeOf22; have t3 := Tryz.underlying3; have a3 := Tryz.isAgg3; have z3 := Tryz.sizeOf3; have t4 := Tryz.underlying4; have a4 := Tryz.isAgg4; have z4 := Tryz.sizeOf4; have z77 := Tryz.sizeOf77
  have u22 := run_underlying Tryz.underlying22; have u3 := run_underlying Tryz.underlying3; have u4 := run_underlying Tryz.underlying4
  obtain ⟨i0, z0, hi0, hz0, hsz, hby, hzs⟩ : ∃ i0 z0, Tryz.prog.info? 77 = some i0 ∧ i0.zero = some z0 ∧ i0.size = 2 ∧ i0.bytes = 48 ∧ z0.cells.size = 2 := ⟨(Tryz.prog.info? 77).get!, (Tryz.prog.info? 77).get!.zero.get!, by kernel_rfl, by kernel_rfl, by kernel_rfl, by kernel_rfl, by kernel_rfl⟩
  have mixed : Tryz.prog.follows .mixedOrders = true := by kernel_rfl
  have hfc : (Builtin.firstCells i0.size 1 (.slice (some ⟨vb, voff, none⟩) 1 vc)).run Tryz.prog w.drew = .ok xs.toArray w.drew := run_firstCells_some w.drew _ 1 _ 1 vc xs (by rw [hxl, hsz]) (fun j v hj => by rw [Addr.add_lit]; exact hvs j v hj)
  have hold : (Builtin.firstCells i0.size n (.slice base n c)).run Tryz.prog w.drew = .ok olds.toArray w.drew := by
    cases base with
    | none =>
      have h0 := hnil rfl
      subst h0
      rw [List.length_eq_zero_iff.1 hol]
      exact run_firstCells_none w.drew _ 0 0 c
    | some a => exact run_firstCells_some w.drew _ n a n c olds (by rw [hol, hsz]) (fun j v hj => (hos a rfl).2.2 j v hj)
  have hrun : ∀ ty, (Builtin.append_ #[22, 22] ty #[.slice base n c, .slice (some ⟨vb, voff, none⟩) 1 vc]).run Tryz.prog w = .ok (.slice (some ⟨w.heap.size, 0, none⟩) (n + 1) (grownCap w (n + 1) c 77)) (w.drew.alloc (.cells (olds.toArray ++ xs.toArray ++ Builtin.zeroCells z0.cells (grownCap w (n + 1) c 77 - (n + 1))) 77)) := fun ty =>
    append_grow (P := Tryz.prog) w 22 22 ty 77 i0 z0 Tryz.underlying22 _ Tryz.underlying22 (.inl rfl) hi0 hz0 (.slice (some ⟨vb, voff, none⟩) 1 vc) 1 (fun _ => rfl) xs base n c olds hfc hold hroom (by omega) (by rw [hby]; exact growslice_fits hroom hbig)
  obtain ⟨zc, hzc⟩ : ∃ zc, zc = z0.cells := ⟨_, rfl⟩
  rw [← hzc] at hrun hzs
  clear hzc
  have main : Calls Tryz.prog 65 #[.slice base n c, .int .i64 n, .slice (some ⟨vb, voff, none⟩) 1 vc] w fun e w' =>
      e = .returned (.slice (some ⟨w.heap.size, 0, none⟩) (n + 1) (grownCap w (n + 1) c 77)) ∧
      w' = w.drew.alloc (.cells (olds.toArray ++ xs.toArray ++ Builtin.zeroCells zc (grownCap w (n + 1) c 77 - (n + 1))) 77) := by
    clear hzs hold hfc
    go_enter Tryz.func65, Tryz.ntmps65
    cases base with
    | none =>
      have h0 := hnil rfl
      subst h0
      go_wp2_with (at_builtin; refine Lib.wpList_append_run _ rfl _ _ _ _ rfl _ _ rfl rfl _ _ (hrun _) ?_)
      go_ret
      exact ⟨rfl, rfl⟩
    | some a =>
      obtain ⟨ab, ao, asp⟩ := a
      go_wp2_with (at_builtin; refine Lib.wpList_append_run _ rfl _ _ _ _ rfl _ _ rfl rfl _ _ (hrun _) ?_)
      all_goals (go_ret; exact ⟨rfl, rfl⟩)
  exact main.mono fun e w' ⟨h1, h2⟩ => ⟨h1, zc, hzs, h2⟩

set_option maxHeartbeats 4000000 in
set_option maxRecDepth 100000 in
theorem ins_grow (b n c i vb voff vc : Nat) (olds xs : List Value) (w : World) (hi : i < n) (hnc : n ≤ c) (hroom : c < n + 1) (hbig : (n + 1) * 48 ≤ 140737488355328)
    (hol : olds.length = n * 2) (hos : ∀ j v, olds[j]? = some v → w.cell? ⟨b, j, none⟩ = some v) (h1o : ∀ v ∈ olds, v.oneCell' = true)
    (hxl : xs.length = 2) (hvs : ∀ j v, xs[j]? = some v → w.cell? ⟨vb, voff + j, none⟩ = some v) (h1v : ∀ v ∈ xs, v.oneCell' = true) :
    Calls Tryz.prog 65 #[.slice (some ⟨b, 0, none⟩) n c, .int .i64 i, .slice (some ⟨vb, voff, none⟩) 1 vc] w fun e w' =>
      e = .returned (.slice (some ⟨w.heap.size, 0, none⟩) (n + 1) (grownCap w (n + 1) c 77)) ∧
      ∃ (z ROW A1 : Array Value), z.size = 2 ∧ ROW = (olds.take (i * 2)).toArray ++ Builtin.zeroCells z (n + 1 - i) ++ Builtin.zeroCells z (grownCap w (n + 1) c 77 - (n + 1)) ∧
        A1 = (ROW.toList.take (i * 2) ++ xs ++ ROW.toList.drop (i * 2 + 2)).toArray ∧
        w' = (((w.drew.alloc (.cells ROW 77)).setRow w.heap.size A1).drew).setRow w.heap.size (A1.toList.take ((i + 1) * 2) ++ olds.drop (i * 2) ++ A1.toList.drop ((i + 1) * 2 + (n - i) * 2)).toArray := by
  have t22 := Tryz.underlying22; have a22 := Tryz.isAgg22; have z22 := Tryz.sizeOf22; have t3 := Tryz.underlying3; have a3 := Tryz.isAgg3; have z3 := Tryz.sizeOf3; have t4 := Tryz.underlying4; have a4 := Tryz.isAgg4; have z4 := Tryz.sizeOf4; have z77 := Tryz.sizeOf77
  have u22 := run_underlying Tryz.underlying22; have u3 := run_underlying Tryz.underlying3; have u4 := run_underlying Tryz.underlying4
  obtain ⟨i0, z0, hi0, hz0, hsz, hby, hzs⟩ : ∃ i0 z0, Tryz.prog.info? 77 = some i0 ∧ i0.zero = some z0 ∧ i0.size = 2 ∧ i0.bytes = 48 ∧ z0.cells.size = 2 := ⟨(Tryz.prog.info? 77).get!, (Tryz.prog.info? 77).get!.zero.get!, by kernel_rfl, by kernel_rfl, by kernel_rfl, by kernel_rfl, by kernel_rfl⟩
  have mixed : Tryz.prog.follows .mixedOrders = true := by kernel_rfl
  have hz2 : ¬ ((i : Int) = (n : Int)) := by omega
  have hz3 : (c : Int) < (n : Int) + 1 := by omega
  have hbw : b < w.heap.size := block_lt_of_cell (hos 0 _ (List.getElem?_eq_getElem (by omega)))
  have hvw : vb < w.heap.size := block_lt_of_cell (hvs 0 _ (List.getElem?_eq_getElem (by omega)))
  have hkk : (n : Int) + 1 - (i : Int) = ((n + 1 - i : Nat) : Int) := by omega
  have hik : i + (n + 1 - i) = n + 1 := by omega
  have hold : (Builtin.firstCells i0.size i (.slice (some ⟨b, 0, none⟩) i c)).run Tryz.prog w.drew = .ok (olds.take (i * 2)).toArray w.drew :=
    run_firstCells_some w.drew _ i ⟨b, 0, none⟩ i c _ (by rw [List.length_take, hol, hsz]; omega) (fun j v hj => by
      rw [Addr.add_lit, Nat.zero_add]
      rw [List.getElem?_take] at hj
      split at hj
      · exact hos j v hj
      · cases hj)
  have hrz : ∀ ty, (Builtin.append_ #[22, 3] ty #[.slice (some ⟨b, 0, none⟩) i c, .int .i64 ((n : Int) + 1 - (i : Int))]).run Tryz.prog w =
      .ok (.slice (some ⟨w.heap.size, 0, none⟩) (n + 1) (grownCap w (n + 1) c 77)) (w.drew.alloc (.cells ((olds.take (i * 2)).toArray ++ Builtin.zeroCells z0.cells (n + 1 - i) ++ Builtin.zeroCells z0.cells (grownCap w (n + 1) c 77 - (n + 1))) 77)) := fun ty => by
    have h := Lib.run_append_grow_zeros w 22 3 ty 77 i0 _ .i64 .i64 Tryz.underlying22 Tryz.underlying3 hi0 hz0 (some ⟨b, 0, none⟩) i c (olds.take (i * 2)) hold (n + 1 - i) (by omega) (by omega) (by omega) (by omega) (by rw [hby]; omega) (by rw [hby, hik]; exact growslice_fits hroom hbig)
    rw [hik] at h
    rw [hkk]
    exact h
  obtain ⟨zc, hzc⟩ : ∃ zc, zc = z0.cells := ⟨_, rfl⟩
  rw [← hzc] at hrz hzs
  have hGn := grownCap_ge w (n + 1) c 77
  have hG63 : grownCap w (n + 1) c 77 ≤ 9223372036854775807 := by
    have := grownCap_le_maxLen w (n + 1) c 77 (by unfold maxLen; omega)
    unfold maxLen at this
    omega
  generalize grownCap w (n + 1) c 77 = G at hrz hGn hG63 ⊢
  obtain ⟨ROW, hROW⟩ : ∃ ROW : Array Value, ROW = (olds.take (i * 2)).toArray ++ Builtin.zeroCells zc (n + 1 - i) ++ Builtin.zeroCells zc (G - (n + 1)) := ⟨_, rfl⟩
  rw [← hROW] at hrz
  have hRl : ROW.size = G * 2 := by
    rw [hROW]
    simp only [Array.size_append, size_zeroCells', List.size_toArray, List.length_take, hol, hzs]
    omega
  have hNh : (w.drew.alloc (.cells ROW 77)).heap[w.heap.size]? = some (.cells ROW 77 (0, 0)) := heap_alloc_new' w.drew _
  have hmn2 : Nat.min 1 (n + 1 - i) = 1 := by show min _ _ = _; omega
  have hmn : Nat.min (n - i) (n - i) = n - i := by show min _ _ = _; omega
  have hcpA : ∀ ty dc, (Builtin.copy_ #[22, 22] ty #[.slice (some ⟨w.heap.size, i * 2, none⟩) (n + 1 - i) dc, .slice (some ⟨vb, voff, none⟩) 1 vc]).run Tryz.prog (w.drew.alloc (.cells ROW 77)) = .ok (goInt 1) ((w.drew.alloc (.cells ROW 77)).setRow w.heap.size (ROW.toList.take (i * 2) ++ xs ++ ROW.toList.drop (i * 2 + 2)).toArray) := fun ty dc => by
    have := run_copyK (w.drew.alloc (.cells ROW 77)) 22 22 ty 77 i0 Tryz.underlying22 hi0 w.heap.size (i * 2) (n + 1 - i) dc 1 ⟨vb, voff, none⟩ vc xs ROW 77
      (by rw [hxl, hsz, hmn2]) (fun j v hj => by
        rw [Addr.add_lit, cell_of_heap (heap_alloc_lt w.drew _ vb hvw) _]
        exact hvs j v hj) hNh (by rw [hxl, hRl]; omega) h1v
    rw [hmn2, hxl] at this
    exact this
  obtain ⟨A1, hA1⟩ : ∃ A1 : Array Value, A1 = (ROW.toList.take (i * 2) ++ xs ++ ROW.toList.drop (i * 2 + 2)).toArray := ⟨_, rfl⟩
  rw [← hA1] at hcpA
  have hA1l : A1.size = G * 2 := by
    rw [hA1]
    simp only [List.size_toArray, List.length_append, List.length_take, List.length_drop, Array.length_toList, hRl, hxl]
    omega
  have hN1 : (((w.drew.alloc (.cells ROW 77)).setRow w.heap.size A1).drew).heap[w.heap.size]? = some (.cells A1 77 (0, 0)) := setRow_heap (w.drew.alloc (.cells ROW 77)) w.heap.size ROW A1 77 (0, 0) hNh
  have hdl : (olds.drop (i * 2)).length = (n - i) * 2 := by rw [List.length_drop, hol]; omega
  have hcpB : ∀ ty dc sc, (Builtin.copy_ #[22, 22] ty #[.slice (some ⟨w.heap.size, (i + 1) * 2, none⟩) (n - i) dc, .slice (some ⟨b, i * 2, none⟩) (n - i) sc]).run Tryz.prog ((w.drew.alloc (.cells ROW 77)).setRow w.heap.size A1).drew =
      .ok (goInt ((n - i : Nat) : Int)) ((((w.drew.alloc (.cells ROW 77)).setRow w.heap.size A1).drew).setRow w.heap.size (A1.toList.take ((i + 1) * 2) ++ olds.drop (i * 2) ++ A1.toList.drop ((i + 1) * 2 + (n - i) * 2)).toArray) := fun ty dc sc => by
    have := run_copyK ((w.drew.alloc (.cells ROW 77)).setRow w.heap.size A1).drew 22 22 ty 77 i0 Tryz.underlying22 hi0 w.heap.size ((i + 1) * 2) (n - i) dc (n - i) ⟨b, i * 2, none⟩ sc (olds.drop (i * 2)) A1 77
      (by rw [hdl, hsz, hmn]) (fun j v hj => by
        rw [Addr.add_lit, cell_of_heap (w := w) (w' := ((w.drew.alloc (.cells ROW 77)).setRow w.heap.size A1).drew) (show ((w.drew.alloc (.cells ROW 77)).setRow w.heap.size A1).heap[b]? = w.heap[b]? from (setRow_other _ _ b _ (by omega)).trans (heap_alloc_lt w.drew _ b hbw)) _]
        rw [List.getElem?_drop] at hj
        exact hos _ v hj) hN1 (by rw [hdl, hA1l]; omega) (fun v hv => h1o v (List.mem_of_mem_drop hv))
    rw [hmn, hdl] at this
    exact this
  have hGi : ¬ (G = i) := by omega
  have hGim : ¬ (G = i + 1) := by omega
  have hci : ¬ (c = i) := by omega
  have hw1 : IntKind.i64.wrap ((i : Int) + 1) = (i : Int) + 1 := by rw [IntKind.wrap_i64]; omega
  have hw2 : IntKind.i64.wrap ((n : Int) + 1) = (n : Int) + 1 := by rw [IntKind.wrap_i64]; omega
  have hw3 : IntKind.i64.wrap ((n : Int) + 1 - (i : Int)) = (n : Int) + 1 - (i : Int) := by rw [IntKind.wrap_i64]; omega
  have hb1 : (0 : Int) ≤ (i : Int) + 1 := by omega
  have hin : i ≤ n := by omega
  have htn : ((i : Int) + 1).toNat = i + 1 := by omega
  have hb3 : (i : Int) ≤ (n : Int) := by omega
  have main : Calls Tryz.prog 65 #[.slice (some ⟨b, 0, none⟩) n c, .int .i64 i, .slice (some ⟨vb, voff, none⟩) 1 vc] w fun e w' =>
      e = .returned (.slice (some ⟨w.heap.size, 0, none⟩) (n + 1) G) ∧
        w' = (((w.drew.alloc (.cells ROW 77)).setRow w.heap.size A1).drew).setRow w.heap.size (A1.toList.take ((i + 1) * 2) ++ olds.drop (i * 2) ++ A1.toList.drop ((i + 1) * 2 + (n - i) * 2)).toArray := by
    obtain ⟨L2, hL2⟩ : ∃ L2 : Array Value, L2 = (A1.toList.take ((i + 1) * 2) ++ olds.drop (i * 2) ++ A1.toList.drop ((i + 1) * 2 + (n - i) * 2)).toArray := ⟨_, rfl⟩
    rw [← hL2] at hcpB ⊢
    have hcpA' : ∀ ty dc, (Builtin.copy_ #[22, 22] ty #[.slice (some ⟨w.heap.size, i * 2, none⟩) (n + 1 - i) dc, .slice (some ⟨vb, voff, none⟩) 1 vc]).run Tryz.prog (w.alloc (.cells ROW 77)).drew = .ok (goInt 1) ((w.alloc (.cells ROW 77)).drew.setRow w.heap.size A1) := hcpA
    have hcpB' : ∀ ty dc sc, (Builtin.copy_ #[22, 22] ty #[.slice (some ⟨w.heap.size, (i + 1) * 2, none⟩) (n - i) dc, .slice (some ⟨b, i * 2, none⟩) (n - i) sc]).run Tryz.prog ((w.alloc (.cells ROW 77)).drew.setRow w.heap.size A1).drew = .ok (goInt ((n - i : Nat) : Int)) (((w.alloc (.cells ROW 77)).drew.setRow w.heap.size A1).drew.setRow w.heap.size L2) := hcpB
    clear hcpA hcpB
    clear hkk hik hold hRl hROW hA1 hzc hzs hL2 hN1 hNh hdl hA1l
    go_enter Tryz.func65, Tryz.ntmps65
    go_wp2_with (first
      | (at_builtin; refine Lib.wpList_append_run _ rfl _ _ _ _ rfl _ _ rfl rfl _ _ (hrz _) ?_)
      | (at_builtin; refine wpList_copy_runI _ rfl _ _ 22 22 rfl _ _ rfl rfl (hcpA' _ _) ?_))
    go_region_law_o (refine step_copy_runI rfl _ _ 22 22 rfl _ _ (by simp [Act.eval, Act.put]) (by simp [Act.eval, Act.put]) (hcpB' _ _ _) ?_)
    go_wp2
    go_ret
    exact ⟨rfl, rfl⟩
  exact main.mono fun e w' ⟨h1, h2⟩ => ⟨h1, zc, ROW, A1, hzs, hROW, hA1, h2⟩

end Go.Proofs.YtcpjmkbcefmldaaGreatDoor.AM

/- slices.Insert, of one: what comes of it. -/
namespace Go.Proofs.YtcpjmkbcefmldaaGreatDoor.AM
open Go Go.Proofs

theorem take_eq {α : Type} {l m : List α} {k : Nat} (hm : m.length = k) (hk : k ≤ l.length) (h : ∀ (q : Nat) (u : α), m[q]? = some u → l[q]? = some u) : l.take k = m := by
  refine List.ext_getElem? fun q => ?_
  rw [List.getElem?_take]
  split
  · rename_i hq
    have h1 : m[q]? = some m[q] := List.getElem?_eq_getElem (by omega)
    rw [h1]; exact h q _ h1
  · rw [List.getElem?_eq_none (by omega)]

theorem slicesInsert_GSeries_run {zv : Value} {i : Int} {x l r : List GSeries} (h : slicesInsert_GSeries i x l = some r) :
    FunO Tryz.prog 65 [.v zv, vI i, sl cGSeries x] [.lin zv 2 77 (l.map cGSeries)] (so 1 cGSeries r) [.dead, tk r.length 2 77] := by
  unfold slicesInsert_GSeries slicesInsert gdM at h
  split at h
  case isFalse => cases h
  rename_i hc
  obtain ⟨h0, h1, hx1, hbig⟩ := hc
  cases h
  obtain ⟨y, rfl⟩ := List.length_eq_one_iff.1 hx1
  obtain ⟨i, rfl⟩ := Int.eq_ofNat_of_zero_le h0
  have hil : i ≤ l.length := by omega
  rw [show ((i : Nat) : Int).toNat = i from rfl]
  generalize hrows : l.map cGSeries = rows
  have hrl : rows.length = l.length := by rw [← hrows, List.length_map]
  have hs : ∀ r ∈ rows, r.length = 2 := by
    rw [← hrows]; intro r hr
    obtain ⟨p, _, rfl⟩ := List.mem_map.1 hr
    rfl
  have hrows' : ((l.take i ++ [y] ++ l.drop i).map cGSeries) = rows.take i ++ [cGSeries y] ++ rows.drop i := by rw [← hrows]; simp [List.map_take, List.map_drop]
  have hs' : ∀ r ∈ rows.take i ++ [cGSeries y] ++ rows.drop i, r.length = 2 := by
    intro r hr
    simp only [List.mem_append, List.mem_singleton] at hr
    rcases hr with (hr | rfl) | hr
    · exact hs r (List.mem_of_mem_take hr)
    · rfl
    · exact hs r (List.mem_of_mem_drop hr)
  have hlen' : (rows.take i ++ [cGSeries y] ++ rows.drop i).length = l.length + 1 := by
    simp only [List.length_append, List.length_take, List.length_drop, List.length_cons, List.length_nil]; omega
  have hlen2 : (l.take i ++ [y] ++ l.drop i).length = l.length + 1 := by
    simp only [List.length_append, List.length_take, List.length_drop, List.length_cons, List.length_nil]; omega
  intro G w vs hm hcv
  obtain ⟨hvl, hcv⟩ := hcv
  match vs, hvl, hcv with
  | [v1, v2, v3], _, hcv =>
    have e1 := conc_v' (hcv 0 _ v1 rfl rfl)
    have e2 := conc_v' (hcv 1 (vI i) v2 rfl rfl)
    subst e1; subst e2
    have c3 := hcv 2 _ v3 rfl rfl
    obtain ⟨g, hg, hok⟩ := hm.obj (o := 0) (x := .lin v1 2 77 rows) rfl
    cases c3 with
    | sl _ _ _ hd _ =>
    obtain ⟨a3, c3, rfl, hn3, hc3, hor⟩ := hd
    rcases hor with hor | ⟨vb, voff, sz3, rfl, hrx⟩
    · cases hor
    have hsz3 : sz3 = 2 := by rw [← hrx.1 0 (cGSeries y) rfl]; rfl
    subst hsz3
    obtain ⟨xs, hfx, hcx⟩ := RowsAt.flat (by omega) hrx
    have hxl : xs.length = 2 := by rw [hfx.1]; rfl
    have hvs : ∀ j v, xs[j]? = some v → w.cell? ⟨vb, voff + j, none⟩ = some v := fun j v hj => (hcx j v hj).1
    have himx : G.imm vb voff := by
      have := (hcx 0 _ (List.getElem?_eq_getElem (by omega))).2
      rw [Nat.add_zero] at this
      exact this
    have hvbl := hm.immLt.1 _ _ himx
    have hone1 : ∀ {L : List Value}, OneL L → ∀ v ∈ L, v.oneCell' = true := fun h v hv => by
      obtain ⟨j, hj, rfl⟩ := List.mem_iff_getElem.1 hv
      exact h j _ (List.getElem?_eq_getElem hj)
    have hmx : (l.length + 1) ≤ maxLen := by unfold maxLen; omega
    -- the end
    have done : ∀ (B cap' : Nat) (arr : Array Value) (w' : World) (olds : List Value), Flat w G.imm 2 rows olds → (w.heap.size ≤ B ∨ G.bl[0]? = some (.gone B)) → w'.heap[B]? = some (.cells arr 77 (0, 0)) → arr.size = cap' * 2 → l.length + 1 ≤ cap' → cap' ≤ maxLen →
        (∀ k, k < w.heap.size → k ≠ B → w'.heap[k]? = w.heap[k]?) → w.heap.size ≤ w'.heap.size → w'.os = w.os → w'.tape = w.tape → (w'.output = w.output ∧ w.drawn ≤ w'.drawn) →
        arr.toList.take ((l.length + 1) * 2) = olds.take (i * 2) ++ xs ++ olds.drop (i * 2) →
        ∃ ae objs' G', (ae = AEnd.ret (so 1 cGSeries (l.take i ++ [y] ++ l.drop i)) ∧ objs' = [.dead, tk (l.take i ++ [y] ++ l.drop i).length 2 77]) ∧ Mem G' objs' w' ∧ Step G w G' w' ∧ EndOk G' w' ae (.returned (.slice (some ⟨B, 0, none⟩) (l.length + 1) cap')) := by
      intro B cap' arr w' olds hfo hB hh has hn hcm hold hsize hos htape hout hnews
      have hfl : Flat w G.imm 2 (rows.take i ++ [cGSeries y] ++ rows.drop i) (olds.take (i * 2) ++ xs ++ olds.drop (i * 2)) :=
        Flat.append (fun r hr => hs' r (by simp only [List.mem_append] at hr ⊢; exact .inl hr)) (Flat.append (fun r hr => hs r (List.mem_of_mem_take hr)) (hfo.take hs i (by omega)) hfx) (hfo.drop i)
      obtain ⟨G', k1, k2, k3⟩ := lin_done hm hB hh has (by rw [hlen']; exact hn) hcm hold hsize hos htape hout hs' hfl (by rw [hlen']; exact hnews)
      rw [hlen'] at k1 k3
      refine ⟨_, _, G', ⟨rfl, rfl⟩, ?_, k2, ?_⟩
      · show Mem G' [.dead, .tok _ 2 77 true] w'
        rw [hlen2]; exact k1
      · show Conc G' w' (.sl (List.map cGSeries (l.take i ++ [y] ++ l.drop i)) (.own 1)) _
        rw [hrows']; exact k3
    have hin : vI ((i : Nat) : Int) = .v (.int .i64 ((i : Nat) : Int)) := rfl
    rcases hok with ⟨hr0, rfl, rfl⟩ | ⟨b, cap, cur, rfl, rfl, hh, hcs, hnc, hcm, him, hrow⟩
    · -- nothing is there
      have hl0 : l.length = 0 := by rw [← hrl, hr0]; rfl
      have hi0 : i = 0 := by omega
      subst hi0
      have hg1 := grownCap_ge w (0 + 1) 0 77
      have hg2 := grownCap_le_maxLen w (0 + 1) 0 77 (by unfold maxLen; omega)
      have := ins_end_grow none 0 0 vb voff c3 [] xs w (Nat.le_refl _) (by omega) (by omega) rfl (fun _ => rfl) (fun a h => by cases h) hxl hvs
      refine this.mono ?_
      rintro e w' ⟨rfl, z, hz, rfl⟩
      have hfo : Flat w G.imm 2 rows [] := by rw [hr0]; exact Flat.nil _ _ _
      have := done w.heap.size (grownCap w (0 + 1) 0 77) _ (w.drew.alloc (.cells ([].toArray ++ xs.toArray ++ Builtin.zeroCells z (grownCap w (0 + 1) 0 77 - (0 + 1))) 77)) [] hfo (.inl (Nat.le_refl _)) (heap_alloc_new' w.drew _)
        (by simp only [Array.size_append, size_zeroCells', List.size_toArray, List.length_nil, hxl, hz]; omega) (by omega) hg2 (fun k hk _ => heap_alloc_lt w.drew _ k hk) (by simp) rfl rfl ⟨rfl, by show w.drawn ≤ w.drawn + 1; omega⟩
        (by
          rw [hl0]
          simp only [Array.toList_append, List.take_nil, List.drop_nil, List.nil_append, List.append_nil]
          rw [List.take_left' (by simpa using hxl)])
      rw [hl0] at this
      exact this
    · -- a row
      obtain ⟨olds, hfo, hco⟩ := RowsAt.flat (by omega) hrow
      have hol : olds.length = l.length * 2 := by rw [hfo.1, hrl]
      have hos : ∀ j v, olds[j]? = some v → w.cell? ⟨b, j, none⟩ = some v := fun j v hj => by
        have := (hco j v hj).1
        rwa [Nat.zero_add] at this
      have hcur : ∀ q u, olds[q]? = some u → cur.toList[q]? = some u := fun q u hq => by
        have := hos q u hq
        rw [cell_at hh] at this
        rw [Array.getElem?_toList]; exact this
      have hcl : cur.toList.length = cur.size := Array.length_toList ..
      have hoc : olds.length ≤ cur.toList.length := by
        have e1 : cur.toList.length = cur.size := Array.length_toList ..
        have e2 := Nat.mul_le_mul_right 2 hnc
        rw [hrl] at e2
        omega
      have hct : cur.toList.take (l.length * 2) = olds := take_eq hol (by omega) hcur
      have hbl := hm.lt 0 _ b hg rfl
      have hvb : vb ≠ b := by rintro rfl; exact him _ himx
      rw [hrl] at hnc ⊢
      have hc63 : cap ≤ 9223372036854775807 := by unfold maxLen at hcm; exact hcm
      rcases Nat.lt_or_ge i l.length with hlt | hge
      · rcases Nat.lt_or_ge cap (l.length + 1) with hroom | hroom
        · -- between, no room
          refine (ins_grow b l.length cap i vb voff c3 olds xs w hlt hnc hroom hbig hol hos (hone1 hfo.2.1) hxl hvs (hone1 hfx.2.1)).mono ?_
          rintro e w' ⟨rfl, z, ROW, A1, hz, hROW, hA1, rfl⟩
          have hg1 := grownCap_ge w (l.length + 1) cap 77
          have hg2 := grownCap_le_maxLen w (l.length + 1) cap 77 hmx
          generalize grownCap w (l.length + 1) cap 77 = G0 at hg1 hg2 hROW ⊢
          have hRl : ROW.size = G0 * 2 := by
            rw [hROW]
            simp only [Array.size_append, size_zeroCells', List.size_toArray, List.length_take, hol, hz]
            omega
          have hA1l : A1.size = G0 * 2 := by
            rw [hA1]
            simp only [List.size_toArray, List.length_append, List.length_take, List.length_drop, Array.length_toList, hRl, hxl]
            omega
          have hN0 : (w.drew.alloc (.cells ROW 77)).heap[w.heap.size]? = some (.cells ROW 77 (0, 0)) := heap_alloc_new' w.drew _
          have hN1 : (((w.drew.alloc (.cells ROW 77)).setRow w.heap.size A1).drew).heap[w.heap.size]? = some (.cells A1 77 (0, 0)) := setRow_heap (w.drew.alloc (.cells ROW 77)) w.heap.size ROW A1 77 (0, 0) hN0
          refine done w.heap.size G0 _ _ olds hfo (.inl (Nat.le_refl _)) (setRow_heap _ w.heap.size A1 _ 77 (0, 0) hN1) ?_ (by omega) hg2 (fun k hk hne => ?_) ?_ rfl rfl ⟨rfl, ?_⟩ ?_
          · simp only [List.size_toArray, List.length_append, List.length_take, List.length_drop, Array.length_toList, hA1l, hol]
            omega
          · rw [setRow_other _ _ _ _ hne]
            exact (setRow_other (w.drew.alloc (.cells ROW 77)) _ _ _ hne).trans (heap_alloc_lt w.drew _ k hk)
          · simp [World.setRow]
          · show w.drawn ≤ w.drawn + 1 + 1; omega
          · have hRt : ROW.toList.take (i * 2) = olds.take (i * 2) := by
              rw [hROW]
              simp only [Array.toList_append]
              rw [List.append_assoc, List.take_left' (by rw [List.length_take]; omega)]
            have hAt : A1.toList.take ((i + 1) * 2) = olds.take (i * 2) ++ xs := by
              rw [hA1, hRt]
              rw [List.take_left' (by rw [List.length_append, List.length_take, hxl]; omega)]
            rw [hAt, List.take_left' (by simp only [List.length_append, List.length_take, List.length_drop, hxl]; omega)]
        · -- between, room
          obtain ⟨ob, hob⟩ : ∃ ob, w.heap[vb]? = some ob := ⟨_, Array.getElem?_eq_getElem hvbl⟩
          obtain ⟨ca, ea, fa, hca, hka⟩ : ∃ ca ea fa, w.heap[vb]? = some (.cells ca ea fa) ∧ ca.size ≠ 0 := by
            have h0 := hvs 0 _ (List.getElem?_eq_getElem (by omega))
            unfold World.cell? at h0
            simp only at h0
            split at h0
            · rename_i cc ee ff hcc
              refine ⟨cc, ee, ff, hcc, ?_⟩
              intro hz
              have : cc = #[] := Array.size_eq_zero_iff.1 hz
              subst this
              simp at h0
            · cases h0
          refine (ins_shift b l.length cap i vb voff c3 ca.size ea cur xs w 77 hlt hroom hc63 hvb hh hcs hxl hvs (by rw [hct]; exact hone1 hfo.2.1) (hone1 hfx.2.1) (by simp [World.shape?, hca]) hka).mono ?_
          rintro e w' ⟨rfl, rfl⟩
          have hAl : (insAr 2 i l.length cur).length = cur.size := by simp only [insAr, List.length_append, List.length_take, List.length_drop, Array.length_toList]; omega
          have hN1 : (w.drew.setRow b (insAr 2 i l.length cur).toArray).heap[b]? = some (.cells (insAr 2 i l.length cur).toArray 77 (0, 0)) := setRow_heap w.drew b cur _ 77 (0, 0) hh
          refine done b cap _ _ olds hfo (.inr hg) (setRow_heap _ b _ _ 77 (0, 0) hN1) ?_ hroom hcm (fun k hk hne => ?_) ?_ rfl rfl ⟨rfl, ?_⟩ ?_
          · simp only [insBr, List.size_toArray, List.length_append, List.length_take, List.length_drop, hAl, hxl, hcs]; omega
          · rw [setRow_other _ _ _ _ hne]
            exact setRow_other w.drew _ _ _ hne
          · simp [World.setRow]
          · show w.drawn ≤ w.drawn + 1; omega
          · have hAt : (insAr 2 i l.length cur).take (i * 2) = olds.take (i * 2) := by
              have e1 : (insAr 2 i l.length cur).take (i * 2) = cur.toList.take (i * 2) := by
                unfold insAr
                rw [List.append_assoc, List.take_append_of_le_length (by rw [List.length_take, Array.length_toList]; omega), List.take_take, Nat.min_eq_left (by omega)]
              rw [e1, ← hct, List.take_take, Nat.min_eq_left (by omega)]
            have hAd : ((insAr 2 i l.length cur).drop (i * 2 + 2)).take ((l.length - i) * 2) = olds.drop (i * 2) := by
              have e3 : ((cur.toList.drop (i * 2)).take ((l.length - i) * 2)).length = (l.length - i) * 2 := by
                rw [List.length_take, List.length_drop, hcl, hcs]; omega
              have e4 : (cur.toList.take ((i + 1) * 2)).length = i * 2 + 2 := by
                rw [List.length_take, hcl, hcs]; omega
              unfold insAr
              rw [List.append_assoc, List.drop_left' e4, List.take_left' e3, ← hct, List.drop_take]
              congr 1; omega
            show (insBr 2 i (insAr 2 i l.length cur) xs).take ((l.length + 1) * 2) = _
            unfold insBr
            rw [hAt, ← hAd, List.take_append, List.take_of_length_le (l := olds.take (i * 2) ++ xs) (by simp only [List.length_append, List.length_take, hxl, hol]; omega)]
            congr 2
            simp only [List.length_append, List.length_take, hxl, hol]; omega
      · have hie : i = l.length := by omega
        subst hie
        rcases Nat.lt_or_ge cap (l.length + 1) with hroom | hroom
        · refine (ins_end_grow (some ⟨b, 0, none⟩) l.length cap vb voff c3 olds xs w hnc hroom hbig hol (fun h => by cases h) (fun a h => by cases h; exact ⟨rfl, rfl, fun j v hj => by rw [Addr.add_lit, Nat.zero_add]; exact hos j v hj⟩) hxl hvs).mono ?_
          rintro e w' ⟨rfl, z, hz, rfl⟩
          have hg1 := grownCap_ge w (l.length + 1) cap 77
          have hg2 := grownCap_le_maxLen w (l.length + 1) cap 77 hmx
          generalize grownCap w (l.length + 1) cap 77 = G0 at hg1 hg2 ⊢
          refine done w.heap.size G0 _ _ olds hfo (.inl (Nat.le_refl _)) (heap_alloc_new' w.drew _) ?_ (by omega) hg2 (fun k hk _ => heap_alloc_lt w.drew _ k hk) (by simp) rfl rfl ⟨rfl, by show w.drawn ≤ w.drawn + 1; omega⟩ ?_
          · simp only [Array.size_append, size_zeroCells', List.size_toArray, hxl, hol, hz]; omega
          · simp only [Array.toList_append]
            rw [List.take_left' (by simp only [List.length_append, hxl, hol]; omega), ← hol, List.take_length, List.drop_length, List.append_nil]
        · refine (ins_end_room b l.length cap vb voff c3 cur xs w hroom hc63 hh hcs hxl hvs hfx.2.1).mono ?_
          rintro e w' ⟨rfl, rfl⟩
          refine done b cap _ _ olds hfo (.inr hg) (setRow_heap w b cur _ 77 (0, 0) hh) ?_ hroom hcm (fun k hk hne => setRow_other w _ _ _ hne) (by simp [World.setRow]) rfl rfl ⟨rfl, Nat.le_refl _⟩ ?_
          · simp only [List.size_toArray, List.length_append, List.length_take, List.length_drop, Array.length_toList, hcs, hxl]; omega
          · show (cur.toList.take (l.length * 2) ++ xs ++ cur.toList.drop (l.length * 2 + 2)).take ((l.length + 1) * 2) = _
            rw [hct, List.take_left' (by simp only [List.length_append, hxl, hol]; omega), ← hol, List.take_length, List.drop_length, List.append_nil]
end Go.Proofs.YtcpjmkbcefmldaaGreatDoor.AM
