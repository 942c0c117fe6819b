/- A part of the proof: Am22, S0, So. -/
import Derived.Test.YtoekflobllmeeaaGreatDoorA3
import Derived.Shelf.SlSortCmp.WholeK
import Derived.Shelf.SlSortCmp.NoneTotal
import Derived.Test.YtoekflobllmeeaaGreatDoorProg
import Derived.Ground.SlsfProg
import Derived.Test.YtoekflobllmeeaaGreatDoorTy
set_option linter.all false
/- The library's sort keeps the contract. -/
namespace Go.Proofs.YtoekflobllmeeaaGreatDoor.AM
open Go Go.Shelf Go.RowKit Go.Lib Go.Sort

theorem sortWorldK_turned {α : Type} [Inhabited α] (enc : α → List Value) (k : Nat) (w : World) (blk n : Nat) (d : Array α) (os : Array Go.Obj) : Turned w (sortWorldK enc k w blk 0 n d os) blk := by
  refine ⟨fun j hj hlt => ?_, ?_, rfl, rfl, rfl, ?_⟩
  · simp only [sortWorldK, grow, putRowK, putRow, mapBlock, Sort.ahead]
    rw [Array.getElem?_append_left (by simpa using hlt), Array.getElem?_modify, if_neg (Ne.symm hj)]
  · simp [sortWorldK, grow, putRowK, putRow, mapBlock, Sort.ahead]
  · show w.drawn ≤ w.drawn + n
    omega

theorem sortWorldK_row {α : Type} [Inhabited α] (enc : α → List Value) (k : Nat) (w : World) (blk n : Nat) (d : Array α) (os : Array Go.Obj) {c : Array Value} {e : TypeId} {t : Nat × Nat} (hb : blk < w.heap.size) (h : w.heap[blk]? = some (.cells c e t))
    (hs : d.size * k ≤ c.size) : ∃ c', (sortWorldK enc k w blk 0 n d os).heap[blk]? = some (.cells c' e t) ∧ c'.size = c.size ∧ ∀ j, j < d.size * k → c'[j]? = some ((enc d[j / k]!)[j % k]!) := by
  refine ⟨putCells id 0 (flatK enc k d) c, ?_, by simp [putCells], ?_⟩
  · simp only [sortWorldK, grow, putRowK, putRow, mapBlock, Sort.ahead]
    rw [Array.getElem?_append_left (by simpa using hb), Array.getElem?_modify, if_pos rfl, h]
    rfl
  · intro j hj
    have hjc : j < c.size := by omega
    simp only [putCells, Array.getElem?_mapIdx, Array.getElem?_eq_getElem hjc, Option.map_some, size_flatK]
    rw [if_pos ⟨Nat.zero_le _, by omega⟩, Nat.sub_zero, get_flatK _ _ _ _ hj]
    rfl

theorem pairwise_sorted {α : Type} [Inhabited α] {lt : α → α → Bool} {d : Array α} (h : SortedIn lt 0 d.size d) : d.toList.Pairwise (fun x y => lt y x = false) := by
  rw [List.pairwise_iff_getElem]
  intro i j hi hj hij
  have := h i j (Nat.zero_le _) hij (by simpa using hj)
  have hi' : i < d.size := by simpa using hi
  have hj' : j < d.size := by simpa using hj
  rw [getElem!_pos d i hi', getElem!_pos d j hj'] at this
  simpa using this

theorem sortCon_of {P : Program} {ρ : Ren} (L : SlLaysF0.n6 P ρ) (k : Nat) (aE : ∀ w, (isAgg (ρ.t 24)).run P w = .ok true w) (zE : ∀ w, (Go.sizeOf (ρ.t 24)).run P w = .ok k w) (g : Nat)
    (eg : ∀ args w, (callFunc g args).run P w = .ok (.enter g args) w) : SortCon P (ρ.f 6) g k := by
  intro α _ enc cf blk cap d w hk h1 o1 o2 o3 hcmp hH hblk hsz
  have hO : SWO (ltOf cf) := ⟨fun x => by simpa [ltOf] using o1 x, fun x y z a b => by simp only [ltOf, decide_eq_true_eq] at *; exact o2 x y z a b,
    fun x y z a b => by simp only [ltOf, decide_eq_false_iff_not] at *; exact o3 x y z a b⟩
  have hc : CmpLays P g #[] enc k cf blk 0 d.size w := by
    intro m os dk hs x y
    refine (hcmp _ (sortWorldK_turned enc k w blk m dk os) x y).mono ?_
    rintro e w' ⟨h1, q, os', h2⟩
    exact ⟨h1, q, os', h2⟩
  have hh : HoldsK enc k w blk 0 d := by
    intro j hj
    have hj' : j < d.size * k := by simpa using hj
    obtain ⟨e1, e2⟩ := hH j hj'
    rw [get_flatK _ _ _ _ hj', Nat.zero_add]
    exact ⟨e1, e2⟩
  refine (AnyQ.slices_SortFunc L k aE zE enc hk h1 cf hO g #[] blk 0 cap d w eg hc hh hblk hsz).mono ?_
  rintro e w' ⟨rfl, d', n, os, hp, hs, rfl⟩
  have hsz' : d'.size = d.size := hp.1
  refine ⟨rfl, sortWorldK_turned enc k w blk n d' os, d', ?_, ?_, ?_⟩
  · have := hp.2.2
    have e1 : d'.extract 0 d.size = d' := by rw [← hsz']; exact Array.extract_size
    have e2 : d.extract 0 d.size = d := Array.extract_size
    rw [e1, e2] at this
    exact this
  · rw [← hsz'] at hs
    refine (pairwise_sorted hs).imp ?_
    intro x y h
    simpa [ltOf] using h
  · intro c e t hct
    have hle : d'.size * k ≤ c.size := by
      rw [hsz']
      rcases Nat.eq_zero_or_pos (d.size * k) with h0 | h0
      · omega
      · obtain ⟨e1, _⟩ := hH (d.size * k - 1) (by omega)
        rw [cell_cells hct] at e1
        rcases Nat.lt_or_ge (d.size * k - 1) c.size with h | h
        · omega
        · rw [Array.getElem?_eq_none h] at e1; cases e1
    have := sortWorldK_row enc k w blk n d' os hblk hct hle
    rw [hsz'] at this
    exact this

end Go.Proofs.YtoekflobllmeeaaGreatDoor.AM

/- The sort, laid. -/
namespace Go.Proofs.YtoekflobllmeeaaGreatDoor.AM
open Go Go.Shelf Go.Proofs
def sortLay_ren : Go.Shelf.Ren := ⟨fun | 6 => 80 | 15 => 100 | 14 => 99 | 28 => 115 | 29 => 116 | 20 => 107 | 21 => 108 | 22 => 109 | 23 => 110 | 24 => 111 | 25 => 112 | 26 => 113 | 27 => 114 | 46 => 121 | 47 => 122 | 48 => 123 | 49 => 124 | 50 => 125 | 57 => 130 | n => n, fun | 22 => 34 | 24 => 45 | 25 => 120 | 3 => 3 | 39 => 131 | 0 => 0 | 53 => 149 | 55 => 151 | 4 => 4 | 46 => 142 | 45 => 141 | 50 => 146 | 5 => 5 | 9 => 9 | 66 => 156 | 70 => 160 | 76 => 166 | 77 => 167 | n => n, fun | n => n⟩
theorem sortLay : Go.Proofs.SlLaysF0.n6 Tryz.prog sortLay_ren := {
  mixed := by kernel_rfl
  f6 := ⟨Tryz.f80.name, by decide, Tryz.func80.trans (congrArg some (by kernel_rfl))⟩
  f14 := ⟨Tryz.f99.name, by decide, Tryz.func99.trans (congrArg some (by kernel_rfl))⟩
  f15 := Tryz.func100.trans (congrArg some (by kernel_rfl))
  f20 := ⟨Tryz.f107.name, by decide, Tryz.func107.trans (congrArg some (by kernel_rfl))⟩
  f21 := ⟨Tryz.f108.name, by decide, Tryz.func108.trans (congrArg some (by kernel_rfl))⟩
  f22 := ⟨Tryz.f109.name, by decide, Tryz.func109.trans (congrArg some (by kernel_rfl))⟩
  f23 := ⟨Tryz.f110.name, by decide, Tryz.func110.trans (congrArg some (by kernel_rfl))⟩
  f24 := ⟨Tryz.f111.name, by decide, Tryz.func111.trans (congrArg some (by kernel_rfl))⟩
  f25 := ⟨Tryz.f112.name, by decide, Tryz.func112.trans (congrArg some (by kernel_rfl))⟩
  f26 := ⟨Tryz.f113.name, by decide, Tryz.func113.trans (congrArg some (by kernel_rfl))⟩
  f27 := ⟨Tryz.f114.name, by decide, Tryz.func114.trans (congrArg some (by kernel_rfl))⟩
  f28 := Tryz.func115.trans (congrArg some (by kernel_rfl))
  f29 := Tryz.func116.trans (congrArg some (by kernel_rfl))
  f46 := ⟨Tryz.f121.name, by decide, Tryz.func121.trans (congrArg some (by kernel_rfl))⟩
  f47 := Tryz.func122.trans (congrArg some (by kernel_rfl))
  f48 := Tryz.func123.trans (congrArg some (by kernel_rfl))
  f49 := ⟨Tryz.f124.name, by decide, Tryz.func124.trans (congrArg some (by kernel_rfl))⟩
  f50 := ⟨Tryz.f125.name, by decide, Tryz.func125.trans (congrArg some (by kernel_rfl))⟩
  f57 := ⟨Tryz.f130.name, by decide, Tryz.func130.trans (congrArg some (by kernel_rfl))⟩
  t0 := Tryz.underlying0
  a0 := Tryz.isAgg0
  z0 := Tryz.sizeOf0
  v0 := Tryz.zeroValue0
  t3 := Tryz.underlying3
  a3 := Tryz.isAgg3
  z3 := Tryz.sizeOf3
  v3 := Tryz.zeroValue3
  t4 := Tryz.underlying4
  a4 := Tryz.isAgg4
  z4 := Tryz.sizeOf4
  v4 := Tryz.zeroValue4
  t5 := Tryz.underlying5
  a5 := Tryz.isAgg5
  z5 := Tryz.sizeOf5
  v5 := Tryz.zeroValue5
  t9 := Tryz.underlying9
  a9 := Tryz.isAgg9
  z9 := Tryz.sizeOf9
  v9 := Tryz.zeroValue9
  t22 := Tryz.underlying34
  a22 := Tryz.isAgg34
  z22 := Tryz.sizeOf34
  v22 := Tryz.zeroValue34
  t25 := Tryz.underlying120
  a25 := Tryz.isAgg120
  z25 := Tryz.sizeOf120
  v25 := Tryz.zeroValue120
  t39 := Tryz.underlying131
  a39 := Tryz.isAgg131
  z39 := Tryz.sizeOf131
  v39 := Tryz.zeroValue131
  t45 := Tryz.underlying141
  a45 := Tryz.isAgg141
  z45 := Tryz.sizeOf141
  v45 := Tryz.zeroValue141
  t46 := Tryz.underlying142
  a46 := Tryz.isAgg142
  z46 := Tryz.sizeOf142
  v46 := Tryz.zeroValue142
  t50 := Tryz.underlying146
  a50 := Tryz.isAgg146
  z50 := Tryz.sizeOf146
  v50 := Tryz.zeroValue146
  t53 := Tryz.underlying149
  a53 := Tryz.isAgg149
  z53 := Tryz.sizeOf149
  v53 := Tryz.zeroValue149
  t55 := Tryz.underlying151
  a55 := Tryz.isAgg151
  z55 := Tryz.sizeOf151
  v55 := Tryz.zeroValue151
  t66 := Tryz.underlying156
  a66 := Tryz.isAgg156
  z66 := Tryz.sizeOf156
  v66 := Tryz.zeroValue156
  t70 := Tryz.underlying160
  a70 := Tryz.isAgg160
  z70 := Tryz.sizeOf160
  v70 := Tryz.zeroValue160
  t76 := Tryz.underlying166
  a76 := Tryz.isAgg166
  z76 := Tryz.sizeOf166
  v76 := Tryz.zeroValue166
  t77 := Tryz.underlying167
  a77 := Tryz.isAgg167
  z77 := Tryz.sizeOf167
  v77 := Tryz.zeroValue167 }
end Go.Proofs.YtoekflobllmeeaaGreatDoor.AM

/- The sorts. -/
namespace Go.Proofs.YtoekflobllmeeaaGreatDoor.AM
open Go Go.Shelf Go.RowKit Go.Proofs

theorem sortEn_80 : enters Tryz.prog 80 = true := by kernel_rfl
theorem sortCon_80_81 : SortCon Tryz.prog 80 81 7 :=
  sortCon_of sortLay 7 (ti_agg (ti_of (t := 45) rfl)) (ti_size (ti_of (t := 45) rfl)) 81 (enters_of Tryz.func81 (by kernel_rfl) rfl)
theorem sortCon0_80_81 : SortCon0 Tryz.prog 80 81 := fun a cap w => AnyF.slices_SortFunc_none sortLay a cap _ w
end Go.Proofs.YtoekflobllmeeaaGreatDoor.AM
