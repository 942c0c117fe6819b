/- A part of the proof: Am22, S0, So. -/
import Derived.Test.YtoekflobllmeeaaDoorA3
import Derived.Shelf.SlSortCmp.WholeK
import Derived.Shelf.SlSortCmp.NoneTotal
import Derived.Test.YtoekflobllmeeaaDoorProg
import Derived.Ground.SlsfProg
import Derived.Test.YtoekflobllmeeaaDoorTy
set_option linter.all false
/- The library's sort keeps the contract. -/
namespace Go.Proofs.YtoekflobllmeeaaDoor.AM
open Go Go.Shelf Go.RowKit Go.Lib Go.Sort

theorem sortWorldK_turned {α : Type} [Inhabited α] (enc : α → List Value) (k : Nat) (w : World) (blk n : Nat) (d : Array α) (os : Array Go.Obj) : Turned w (sortWorldK enc k w blk 0 n d os) blk := by
  refine ⟨fun j hj hlt => ?_, ?_, rfl, rfl, rfl, ?_⟩
  · simp only [sortWorldK, grow, putRowK, putRow, mapBlock, Sort.ahead]
    rw [Array.getElem?_append_left (by simpa using hlt), Array.getElem?_modify, if_neg (Ne.symm hj)]
  · simp [sortWorldK, grow, putRowK, putRow, mapBlock, Sort.ahead]
  · show w.drawn ≤ w.drawn + n
    omega

theorem sortWorldK_row {α : Type} [Inhabited α] (enc : α → List Value) (k : Nat) (w : World) (blk n : Nat) (d : Array α) (os : Array Go.Obj) {c : Array Value} {e : TypeId} {t : Nat × Nat} (hb : blk < w.heap.size) (h : w.heap[blk]? = some (.cells c e t))
    (hs : d.size * k ≤ c.size) : ∃ c', (sortWorldK enc k w blk 0 n d os).heap[blk]? = some (.cells c' e t) ∧ c'.size = c.size ∧ ∀ j, j < d.size * k → c'[j]? = some ((enc d[j / k]!)[j % k]!) := by
  refine ⟨putCells id 0 (flatK enc k d) c, ?_, by simp [putCells], ?_⟩
  · simp only [sortWorldK, grow, putRowK, putRow, mapBlock, Sort.ahead]
    rw [Array.getElem?_append_left (by simpa using hb), Array.getElem?_modify, if_pos rfl, h]
    rfl
  · intro j hj
    have hjc : j < c.size := by omega
    simp only [putCells, Array.getElem?_mapIdx, Array.getElem?_eq_getElem hjc, Option.map_some, size_flatK]
    rw [if_pos ⟨Nat.zero_le _, by omega⟩, Nat.sub_zero, get_flatK _ _ _ _ hj]
    rfl

theorem pairwise_sorted {α : Type} [Inhabited α] {lt : α → α → Bool} {d : Array α} (h : SortedIn lt 0 d.size d) : d.toList.Pairwise (fun x y => lt y x = false) := by
  rw [List.pairwise_iff_getElem]
  intro i j hi hj hij
  have := h i j (Nat.zero_le _) hij (by simpa using hj)
  have hi' : i < d.size := by simpa using hi
  have hj' : j < d.size := by simpa using hj
  rw [getElem!_pos d i hi', getElem!_pos d j hj'] at this
  simpa using this

theorem sortCon_of {P : Program} {ρ : Ren} (L : SlLaysF0.n6 P ρ) (k : Nat) (aE : ∀ w, (isAgg (ρ.t 24)).run P w = .ok true w) (zE : ∀ w, (Go.sizeOf (ρ.t 24)).run P w = .ok k w) (g : Nat)
    (eg : ∀ args w, (callFunc g args).run P w = .ok (.enter g args) w) : SortCon P (ρ.f 6) g k := by
  intro α _ enc cf blk cap d w hk h1 o1 o2 o3 hcmp hH hblk hsz
  have hO : SWO (ltOf cf) := ⟨fun x => by simpa [ltOf] using o1 x, fun x y z a b => by simp only [ltOf, decide_eq_true_eq] at *; exact o2 x y z a b,
    fun x y z a b => by simp only [ltOf, decide_eq_false_iff_not] at *; exact o3 x y z a b⟩
  have hc : CmpLays P g #[] enc k cf blk 0 d.size w := by
    intro m os dk hs x y
    refine (hcmp _ (sortWorldK_turned enc k w blk m dk os) x y).mono ?_
    rintro e w' ⟨h1, q, os', h2⟩
    exact ⟨h1, q, os', h2⟩
  have hh : HoldsK enc k w blk 0 d := by
    intro j hj
    have hj' : j < d.size * k := by simpa using hj
    obtain ⟨e1, e2⟩ := hH j hj'
    rw [get_flatK _ _ _ _ hj', Nat.zero_add]
    exact ⟨e1, e2⟩
  refine (AnyQ.slices_SortFunc L k aE zE enc hk h1 cf hO g #[] blk 0 cap d w eg hc hh hblk hsz).mono ?_
  rintro e w' ⟨rfl, d', n, os, hp, hs, rfl⟩
  have hsz' : d'.size = d.size := hp.1
  refine ⟨rfl, sortWorldK_turned enc k w blk n d' os, d', ?_, ?_, ?_⟩
  · have := hp.2.2
    have e1 : d'.extract 0 d.size = d' := by rw [← hsz']; exact Array.extract_size
    have e2 : d.extract 0 d.size = d := Array.extract_size
    rw [e1, e2] at this
    exact this
  · rw [← hsz'] at hs
    refine (pairwise_sorted hs).imp ?_
    intro x y h
    simpa [ltOf] using h
  · intro c e t hct
    have hle : d'.size * k ≤ c.size := by
      rw [hsz']
      rcases Nat.eq_zero_or_pos (d.size * k) with h0 | h0
      · omega
      · obtain ⟨e1, _⟩ := hH (d.size * k - 1) (by omega)
        rw [cell_cells hct] at e1
        rcases Nat.lt_or_ge (d.size * k - 1) c.size with h | h
        · omega
        · rw [Array.getElem?_eq_none h] at e1; cases e1
    have := sortWorldK_row enc k w blk n d' os hblk hct hle
    rw [hsz'] at this
    exact this

end Go.Proofs.YtoekflobllmeeaaDoor.AM

/- The sort, laid. -/
namespace Go.Proofs.YtoekflobllmeeaaDoor.AM
open Go Go.Shelf Go.Proofs
def sortLay_ren : Go.Shelf.Ren := ⟨fun | 6 => 50 | 15 => 66 | 14 => 65 | 28 => 82 | 29 => 83 | 20 => 74 | 21 => 75 | 22 => 76 | 23 => 77 | 24 => 78 | 25 => 79 | 26 => 80 | 27 => 81 | 46 => 89 | 47 => 90 | 48 => 91 | 49 => 92 | 50 => 93 | 57 => 98 | n => n, fun | 22 => 31 | 24 => 62 | 25 => 107 | 3 => 3 | 39 => 120 | 0 => 0 | 53 => 140 | 55 => 142 | 4 => 4 | 46 => 133 | 45 => 132 | 50 => 137 | 5 => 5 | 9 => 9 | 66 => 148 | 70 => 152 | 76 => 158 | 77 => 159 | n => n, fun | n => n⟩
theorem sortLay : Go.Proofs.SlLaysF0.n6 Tryd.prog sortLay_ren := {
  mixed := by kernel_rfl
  f6 := ⟨Tryd.f50.name, by decide, Tryd.func50.trans (congrArg some (by kernel_rfl))⟩
  f14 := ⟨Tryd.f65.name, by decide, Tryd.func65.trans (congrArg some (by kernel_rfl))⟩
  f15 := Tryd.func66.trans (congrArg some (by kernel_rfl))
  f20 := ⟨Tryd.f74.name, by decide, Tryd.func74.trans (congrArg some (by kernel_rfl))⟩
  f21 := ⟨Tryd.f75.name, by decide, Tryd.func75.trans (congrArg some (by kernel_rfl))⟩
  f22 := ⟨Tryd.f76.name, by decide, Tryd.func76.trans (congrArg some (by kernel_rfl))⟩
  f23 := ⟨Tryd.f77.name, by decide, Tryd.func77.trans (congrArg some (by kernel_rfl))⟩
  f24 := ⟨Tryd.f78.name, by decide, Tryd.func78.trans (congrArg some (by kernel_rfl))⟩
  f25 := ⟨Tryd.f79.name, by decide, Tryd.func79.trans (congrArg some (by kernel_rfl))⟩
  f26 := ⟨Tryd.f80.name, by decide, Tryd.func80.trans (congrArg some (by kernel_rfl))⟩
  f27 := ⟨Tryd.f81.name, by decide, Tryd.func81.trans (congrArg some (by kernel_rfl))⟩
  f28 := Tryd.func82.trans (congrArg some (by kernel_rfl))
  f29 := Tryd.func83.trans (congrArg some (by kernel_rfl))
  f46 := ⟨Tryd.f89.name, by decide, Tryd.func89.trans (congrArg some (by kernel_rfl))⟩
  f47 := Tryd.func90.trans (congrArg some (by kernel_rfl))
  f48 := Tryd.func91.trans (congrArg some (by kernel_rfl))
  f49 := ⟨Tryd.f92.name, by decide, Tryd.func92.trans (congrArg some (by kernel_rfl))⟩
  f50 := ⟨Tryd.f93.name, by decide, Tryd.func93.trans (congrArg some (by kernel_rfl))⟩
  f57 := ⟨Tryd.f98.name, by decide, Tryd.func98.trans (congrArg some (by kernel_rfl))⟩
  t0 := Tryd.underlying0
  a0 := Tryd.isAgg0
  z0 := Tryd.sizeOf0
  v0 := Tryd.zeroValue0
  t3 := Tryd.underlying3
  a3 := Tryd.isAgg3
  z3 := Tryd.sizeOf3
  v3 := Tryd.zeroValue3
  t4 := Tryd.underlying4
  a4 := Tryd.isAgg4
  z4 := Tryd.sizeOf4
  v4 := Tryd.zeroValue4
  t5 := Tryd.underlying5
  a5 := Tryd.isAgg5
  z5 := Tryd.sizeOf5
  v5 := Tryd.zeroValue5
  t9 := Tryd.underlying9
  a9 := Tryd.isAgg9
  z9 := Tryd.sizeOf9
  v9 := Tryd.zeroValue9
  t22 := Tryd.underlying31
  a22 := Tryd.isAgg31
  z22 := Tryd.sizeOf31
  v22 := Tryd.zeroValue31
  t25 := Tryd.underlying107
  a25 := Tryd.isAgg107
  z25 := Tryd.sizeOf107
  v25 := Tryd.zeroValue107
  t39 := Tryd.underlying120
  a39 := Tryd.isAgg120
  z39 := Tryd.sizeOf120
  v39 := Tryd.zeroValue120
  t45 := Tryd.underlying132
  a45 := Tryd.isAgg132
  z45 := Tryd.sizeOf132
  v45 := Tryd.zeroValue132
  t46 := Tryd.underlying133
  a46 := Tryd.isAgg133
  z46 := Tryd.sizeOf133
  v46 := Tryd.zeroValue133
  t50 := Tryd.underlying137
  a50 := Tryd.isAgg137
  z50 := Tryd.sizeOf137
  v50 := Tryd.zeroValue137
  t53 := Tryd.underlying140
  a53 := Tryd.isAgg140
  z53 := Tryd.sizeOf140
  v53 := Tryd.zeroValue140
  t55 := Tryd.underlying142
  a55 := Tryd.isAgg142
  z55 := Tryd.sizeOf142
  v55 := Tryd.zeroValue142
  t66 := Tryd.underlying148
  a66 := Tryd.isAgg148
  z66 := Tryd.sizeOf148
  v66 := Tryd.zeroValue148
  t70 := Tryd.underlying152
  a70 := Tryd.isAgg152
  z70 := Tryd.sizeOf152
  v70 := Tryd.zeroValue152
  t76 := Tryd.underlying158
  a76 := Tryd.isAgg158
  z76 := Tryd.sizeOf158
  v76 := Tryd.zeroValue158
  t77 := Tryd.underlying159
  a77 := Tryd.isAgg159
  z77 := Tryd.sizeOf159
  v77 := Tryd.zeroValue159 }
end Go.Proofs.YtoekflobllmeeaaDoor.AM

/- The sorts. -/
namespace Go.Proofs.YtoekflobllmeeaaDoor.AM
open Go Go.Shelf Go.RowKit Go.Proofs

theorem sortEn_50 : enters Tryd.prog 50 = true := by kernel_rfl
theorem sortCon_50_51 : SortCon Tryd.prog 50 51 7 :=
  sortCon_of sortLay 7 (ti_agg (ti_of (t := 62) rfl)) (ti_size (ti_of (t := 62) rfl)) 51 (enters_of Tryd.func51 (by kernel_rfl) rfl)
theorem sortCon0_50_51 : SortCon0 Tryd.prog 50 51 := fun a cap w => AnyF.slices_SortFunc_none sortLay a cap _ w
end Go.Proofs.YtoekflobllmeeaaDoor.AM
