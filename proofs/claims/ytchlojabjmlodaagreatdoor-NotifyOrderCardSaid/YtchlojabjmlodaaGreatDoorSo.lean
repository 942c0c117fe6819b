/- A part of the proof: Am22, S0, So. -/
import Derived.Test.YtchlojabjmlodaaGreatDoorA3
import Derived.Shelf.SlSortCmp.WholeK
import Derived.Shelf.SlSortCmp.NoneTotal
import Derived.Test.YtchlojabjmlodaaGreatDoorProg
import Derived.Ground.SlsfProg
import Derived.Test.YtchlojabjmlodaaGreatDoorTy
set_option linter.all false
/- The library's sort keeps the contract. -/
namespace Go.Proofs.YtchlojabjmlodaaGreatDoor.AM
open Go Go.Shelf Go.RowKit Go.Lib Go.Sort

theorem sortWorldK_turned {α : Type} [Inhabited α] (enc : α → List Value) (k : Nat) (w : World) (blk n : Nat) (d : Array α) (os : Array Go.Obj) : Turned w (sortWorldK enc k w blk 0 n d os) blk := by
  refine ⟨fun j hj hlt => ?_, ?_, rfl, rfl, rfl, ?_⟩
  · simp only [sortWorldK, grow, putRowK, putRow, mapBlock, Sort.ahead]
    rw [Array.getElem?_append_left (by simpa using hlt), Array.getElem?_modify, if_neg (Ne.symm hj)]
  · simp [sortWorldK, grow, putRowK, putRow, mapBlock, Sort.ahead]
  · show w.drawn ≤ w.drawn + n
    omega

theorem sortWorldK_row {α : Type} [Inhabited α] (enc : α → List Value) (k : Nat) (w : World) (blk n : Nat) (d : Array α) (os : Array Go.Obj) {c : Array Value} {e : TypeId} {t : Nat × Nat} (hb : blk < w.heap.size) (h : w.heap[blk]? = some (.cells c e t))
    (hs : d.size * k ≤ c.size) : ∃ c', (sortWorldK enc k w blk 0 n d os).heap[blk]? = some (.cells c' e t) ∧ c'.size = c.size ∧ ∀ j, j < d.size * k → c'[j]? = some ((enc d[j / k]!)[j % k]!) := by
  refine ⟨putCells id 0 (flatK enc k d) c, ?_, by simp [putCells], ?_⟩
  · simp only [sortWorldK, grow, putRowK, putRow, mapBlock, Sort.ahead]
    rw [Array.getElem?_append_left (by simpa using hb), Array.getElem?_modify, if_pos rfl, h]
    rfl
  · intro j hj
    have hjc : j < c.size := by omega
    simp only [putCells, Array.getElem?_mapIdx, Array.getElem?_eq_getElem hjc, Option.map_some, size_flatK]
    rw [if_pos ⟨Nat.zero_le _, by omega⟩, Nat.sub_zero, get_flatK _ _ _ _ hj]
    rfl

theorem pairwise_sorted {α : Type} [Inhabited α] {lt : α → α → Bool} {d : Array α} (h : SortedIn lt 0 d.size d) : d.toList.Pairwise (fun x y => lt y x = false) := by
  rw [List.pairwise_iff_getElem]
  intro i j hi hj hij
  have := h i j (Nat.zero_le _) hij (by simpa using hj)
  have hi' : i < d.size := by simpa using hi
  have hj' : j < d.size := by simpa using hj
  rw [getElem!_pos d i hi', getElem!_pos d j hj'] at this
  simpa using this

theorem sortCon_of {P : Program} {ρ : Ren} (L : SlLaysF0.n6 P ρ) (k : Nat) (aE : ∀ w, (isAgg (ρ.t 24)).run P w = .ok true w) (zE : ∀ w, (Go.sizeOf (ρ.t 24)).run P w = .ok k w) (g : Nat)
    (eg : ∀ args w, (callFunc g args).run P w = .ok (.enter g args) w) : SortCon P (ρ.f 6) g k false := by
  intro α _ enc cf blk cap d w hk h1 o1 o2 o3 hcmp hH hblk hsz
  have hO : SWO (ltOf cf) := ⟨fun x => by simpa [ltOf] using o1 x, fun x y z a b => by simp only [ltOf, decide_eq_true_eq] at *; exact o2 x y z a b,
    fun x y z a b => by simp only [ltOf, decide_eq_false_iff_not] at *; exact o3 x y z a b⟩
  have hc : CmpLays P g #[] enc k cf blk 0 d.size w := by
    intro m os dk hs x y
    refine (hcmp _ (sortWorldK_turned enc k w blk m dk os) x y).mono ?_
    rintro e w' ⟨h1, q, os', h2⟩
    exact ⟨h1, q, os', h2⟩
  have hh : HoldsK enc k w blk 0 d := by
    intro j hj
    have hj' : j < d.size * k := by simpa using hj
    obtain ⟨e1, e2⟩ := hH j hj'
    rw [get_flatK _ _ _ _ hj', Nat.zero_add]
    exact ⟨e1, e2⟩
  refine (AnyQ.slices_SortFunc L k aE zE enc hk h1 cf hO g #[] blk 0 cap d w eg hc hh hblk hsz).mono ?_
  rintro e w' ⟨rfl, d', n, os, hp, hs, rfl⟩
  have hsz' : d'.size = d.size := hp.1
  refine ⟨rfl, sortWorldK_turned enc k w blk n d' os, d', ?_, ?_, ?_⟩
  · have := hp.2.2
    have e1 : d'.extract 0 d.size = d' := by rw [← hsz']; exact Array.extract_size
    have e2 : d.extract 0 d.size = d := Array.extract_size
    rw [e1, e2] at this
    exact this
  · rw [← hsz'] at hs
    refine (pairwise_sorted hs).imp ?_
    intro x y h
    simpa [ltOf] using h
  · intro c e t hct
    have hle : d'.size * k ≤ c.size := by
      rw [hsz']
      rcases Nat.eq_zero_or_pos (d.size * k) with h0 | h0
      · omega
      · obtain ⟨e1, _⟩ := hH (d.size * k - 1) (by omega)
        rw [cell_cells hct] at e1
        rcases Nat.lt_or_ge (d.size * k - 1) c.size with h | h
        · omega
        · rw [Array.getElem?_eq_none h] at e1; cases e1
    have := sortWorldK_row enc k w blk n d' os hblk hct hle
    rw [hsz'] at this
    exact this

/-- .. of rows of one cell -/
theorem sortCon1_of {P : Program} {ρ : Ren} (L : SlLaysF.n6 P ρ) (g : Nat)
    (eg : ∀ args w, (callFunc g args).run P w = .ok (.enter g args) w) : SortCon P (ρ.f 6) g 1 true := by
  intro α _ enc cf blk cap d w hk h1 o1 o2 o3 hcmp hH hblk hsz
  have hO : SWO (ltOf cf) := ⟨fun x => by simpa [ltOf] using o1 x, fun x y z a b => by simp only [ltOf, decide_eq_true_eq] at *; exact o2 x y z a b,
    fun x y z a b => by simp only [ltOf, decide_eq_false_iff_not] at *; exact o3 x y z a b⟩
  let en : α → Value := fun x => (enc x).headD undef
  have hen : ∀ x, enc x = [en x] := by
    intro x
    have := hk x
    show enc x = [(enc x).headD undef]
    match h : enc x, this with
    | [v], _ => rfl
  have hflat : ∀ d' : Array α, flatK enc 1 d' = d'.map en := by
    intro d'
    apply Array.ext_getElem?
    intro j
    rcases Nat.lt_or_ge j d'.size with hj | hj
    · have h2 := get_flatK enc 1 d' j (by omega)
      rw [getElem!_pos (flatK enc 1 d') j (by rw [size_flatK]; omega)] at h2
      rw [Array.getElem?_eq_getElem (by rw [size_flatK]; omega), h2, Array.getElem?_map, Array.getElem?_eq_getElem hj]
      simp only [Nat.div_one, Nat.mod_one, Option.map_some, hen]
      rw [getElem!_pos d' j hj]; rfl
    · rw [Array.getElem?_eq_none (by rw [size_flatK]; omega), Array.getElem?_eq_none (by simpa using hj)]
  have hw : ∀ (n : Nat) (d' : Array α) (os : Array Go.Obj), sortWorld en w blk 0 n d' os = sortWorldK enc 1 w blk 0 n d' os := by
    intro n d' os
    simp only [sortWorld, sortWorldK, putRowK, putRow]
    congr 2
    funext c
    rw [hflat]
    simp only [putCells, Array.size_map]
    congr 1
    funext k x
    split
    · rename_i hh
      have hl : k - 0 < d'.size := by omega
      rw [getElem!_pos d' _ hl, getElem!_pos (d'.map en) _ (by simpa using hl)]
      simp
    · rfl
  have hc : CmpLays1 P g #[] en cf blk 0 d.size w := by
    intro m os dk hs x y
    rw [hw]
    refine (hcmp _ (sortWorldK_turned enc 1 w blk m dk os) x y).mono ?_
    rintro e w' ⟨h1, q, os', h2⟩
    exact ⟨h1, q, os', h2⟩
  have hh : Holds en w blk 0 d := by
    intro j hj
    obtain ⟨e1, e2⟩ := hH j (by omega)
    rw [Nat.zero_add]
    refine ⟨?_, e2⟩
    rw [e1, Nat.div_one, Nat.mod_one, hen]; rfl
  refine (Any.slices_SortFunc L en (fun x => h1 x _ (by rw [hen]; exact List.mem_cons_self)) cf hO g #[] blk 0 cap d w eg hc hh hblk hsz).mono ?_
  rintro e w' ⟨rfl, d', n, os, hp, hs, rfl⟩
  rw [hw]
  have hsz' : d'.size = d.size := hp.1
  refine ⟨rfl, sortWorldK_turned enc 1 w blk n d' os, d', ?_, ?_, ?_⟩
  · have := hp.2.2
    have e1 : d'.extract 0 d.size = d' := by rw [← hsz']; exact Array.extract_size
    have e2 : d.extract 0 d.size = d := Array.extract_size
    rw [e1, e2] at this
    exact this
  · rw [← hsz'] at hs
    refine (pairwise_sorted hs).imp ?_
    intro x y h
    simpa [ltOf] using h
  · intro c e t hct
    have hle : d'.size * 1 ≤ c.size := by
      rw [hsz']
      rcases Nat.eq_zero_or_pos (d.size * 1) with h0 | h0
      · omega
      · obtain ⟨e1, _⟩ := hH (d.size * 1 - 1) (by omega)
        rw [cell_cells hct] at e1
        rcases Nat.lt_or_ge (d.size * 1 - 1) c.size with h | h
        · omega
        · rw [Array.getElem?_eq_none h] at e1; cases e1
    have := sortWorldK_row enc 1 w blk n d' os hblk hct hle
    rw [hsz'] at this
    exact this

end Go.Proofs.YtchlojabjmlodaaGreatDoor.AM

/- The sort, laid. -/
namespace Go.Proofs.YtchlojabjmlodaaGreatDoor.AM
open Go Go.Shelf Go.Proofs
def sortLay_ren : Go.Shelf.Ren := ⟨fun | 6 => 30 | 15 => 50 | 14 => 49 | 28 => 72 | 29 => 73 | 20 => 64 | 21 => 65 | 22 => 66 | 23 => 67 | 24 => 68 | 25 => 69 | 26 => 70 | 27 => 71 | 46 => 79 | 47 => 80 | 48 => 81 | 49 => 82 | 50 => 83 | 57 => 96 | n => n, fun | 22 => 40 | 24 => 33 | 25 => 43 | 3 => 3 | 39 => 102 | 0 => 0 | 53 => 130 | 55 => 132 | 4 => 4 | 46 => 124 | 45 => 123 | 50 => 95 | 5 => 5 | 9 => 9 | 66 => 136 | 70 => 140 | 76 => 151 | 77 => 152 | n => n, fun | n => n⟩
theorem sortLay : Go.Proofs.SlLaysF.n6 Tryz.prog sortLay_ren := {
  mixed := by kernel_rfl
  f6 := ⟨Tryz.f30.name, by decide, Tryz.func30.trans (congrArg some (by kernel_rfl))⟩
  f14 := ⟨Tryz.f49.name, by decide, Tryz.func49.trans (congrArg some (by kernel_rfl))⟩
  f15 := Tryz.func50.trans (congrArg some (by kernel_rfl))
  f20 := ⟨Tryz.f64.name, by decide, Tryz.func64.trans (congrArg some (by kernel_rfl))⟩
  f21 := ⟨Tryz.f65.name, by decide, Tryz.func65.trans (congrArg some (by kernel_rfl))⟩
  f22 := ⟨Tryz.f66.name, by decide, Tryz.func66.trans (congrArg some (by kernel_rfl))⟩
  f23 := ⟨Tryz.f67.name, by decide, Tryz.func67.trans (congrArg some (by kernel_rfl))⟩
  f24 := ⟨Tryz.f68.name, by decide, Tryz.func68.trans (congrArg some (by kernel_rfl))⟩
  f25 := ⟨Tryz.f69.name, by decide, Tryz.func69.trans (congrArg some (by kernel_rfl))⟩
  f26 := ⟨Tryz.f70.name, by decide, Tryz.func70.trans (congrArg some (by kernel_rfl))⟩
  f27 := ⟨Tryz.f71.name, by decide, Tryz.func71.trans (congrArg some (by kernel_rfl))⟩
  f28 := Tryz.func72.trans (congrArg some (by kernel_rfl))
  f29 := Tryz.func73.trans (congrArg some (by kernel_rfl))
  f46 := ⟨Tryz.f79.name, by decide, Tryz.func79.trans (congrArg some (by kernel_rfl))⟩
  f47 := Tryz.func80.trans (congrArg some (by kernel_rfl))
  f48 := Tryz.func81.trans (congrArg some (by kernel_rfl))
  f49 := ⟨Tryz.f82.name, by decide, Tryz.func82.trans (congrArg some (by kernel_rfl))⟩
  f50 := ⟨Tryz.f83.name, by decide, Tryz.func83.trans (congrArg some (by kernel_rfl))⟩
  f57 := ⟨Tryz.f96.name, by decide, Tryz.func96.trans (congrArg some (by kernel_rfl))⟩
  t0 := Tryz.underlying0
  a0 := Tryz.isAgg0
  z0 := Tryz.sizeOf0
  v0 := Tryz.zeroValue0
  t3 := Tryz.underlying3
  a3 := Tryz.isAgg3
  z3 := Tryz.sizeOf3
  v3 := Tryz.zeroValue3
  t4 := Tryz.underlying4
  a4 := Tryz.isAgg4
  z4 := Tryz.sizeOf4
  v4 := Tryz.zeroValue4
  t5 := Tryz.underlying5
  a5 := Tryz.isAgg5
  z5 := Tryz.sizeOf5
  v5 := Tryz.zeroValue5
  t9 := Tryz.underlying9
  a9 := Tryz.isAgg9
  z9 := Tryz.sizeOf9
  v9 := Tryz.zeroValue9
  t22 := Tryz.underlying40
  a22 := Tryz.isAgg40
  z22 := Tryz.sizeOf40
  v22 := Tryz.zeroValue40
  a24 := Tryz.isAgg33
  z24 := Tryz.sizeOf33
  t25 := Tryz.underlying43
  a25 := Tryz.isAgg43
  z25 := Tryz.sizeOf43
  v25 := Tryz.zeroValue43
  t39 := Tryz.underlying102
  a39 := Tryz.isAgg102
  z39 := Tryz.sizeOf102
  v39 := Tryz.zeroValue102
  t45 := Tryz.underlying123
  a45 := Tryz.isAgg123
  z45 := Tryz.sizeOf123
  v45 := Tryz.zeroValue123
  t46 := Tryz.underlying124
  a46 := Tryz.isAgg124
  z46 := Tryz.sizeOf124
  v46 := Tryz.zeroValue124
  t50 := Tryz.underlying95
  a50 := Tryz.isAgg95
  z50 := Tryz.sizeOf95
  v50 := Tryz.zeroValue95
  t53 := Tryz.underlying130
  a53 := Tryz.isAgg130
  z53 := Tryz.sizeOf130
  v53 := Tryz.zeroValue130
  t55 := Tryz.underlying132
  a55 := Tryz.isAgg132
  z55 := Tryz.sizeOf132
  v55 := Tryz.zeroValue132
  t66 := Tryz.underlying136
  a66 := Tryz.isAgg136
  z66 := Tryz.sizeOf136
  v66 := Tryz.zeroValue136
  t70 := Tryz.underlying140
  a70 := Tryz.isAgg140
  z70 := Tryz.sizeOf140
  v70 := Tryz.zeroValue140
  t76 := Tryz.underlying151
  a76 := Tryz.isAgg151
  z76 := Tryz.sizeOf151
  v76 := Tryz.zeroValue151
  t77 := Tryz.underlying152
  a77 := Tryz.isAgg152
  z77 := Tryz.sizeOf152
  v77 := Tryz.zeroValue152 }
def sortLay60_ren : Go.Shelf.Ren := ⟨fun | 6 => 60 | 15 => 50 | 14 => 77 | 28 => 72 | 29 => 73 | 20 => 87 | 21 => 88 | 22 => 89 | 23 => 90 | 24 => 91 | 25 => 92 | 26 => 93 | 27 => 94 | 46 => 101 | 47 => 80 | 48 => 81 | 49 => 102 | 50 => 103 | 57 => 108 | n => n, fun | 22 => 45 | 24 => 73 | 25 => 120 | 3 => 3 | 39 => 102 | 0 => 0 | 53 => 130 | 55 => 132 | 4 => 4 | 46 => 124 | 45 => 123 | 50 => 95 | 5 => 5 | 9 => 9 | 66 => 136 | 70 => 140 | 76 => 151 | 77 => 152 | n => n, fun | n => n⟩
theorem sortLay60 : Go.Proofs.SlLaysF0.n6 Tryz.prog sortLay60_ren := {
  mixed := by kernel_rfl
  f6 := ⟨Tryz.f60.name, by decide, Tryz.func60.trans (congrArg some (by kernel_rfl))⟩
  f14 := ⟨Tryz.f77.name, by decide, Tryz.func77.trans (congrArg some (by kernel_rfl))⟩
  f15 := Tryz.func50.trans (congrArg some (by kernel_rfl))
  f20 := ⟨Tryz.f87.name, by decide, Tryz.func87.trans (congrArg some (by kernel_rfl))⟩
  f21 := ⟨Tryz.f88.name, by decide, Tryz.func88.trans (congrArg some (by kernel_rfl))⟩
  f22 := ⟨Tryz.f89.name, by decide, Tryz.func89.trans (congrArg some (by kernel_rfl))⟩
  f23 := ⟨Tryz.f90.name, by decide, Tryz.func90.trans (congrArg some (by kernel_rfl))⟩
  f24 := ⟨Tryz.f91.name, by decide, Tryz.func91.trans (congrArg some (by kernel_rfl))⟩
  f25 := ⟨Tryz.f92.name, by decide, Tryz.func92.trans (congrArg some (by kernel_rfl))⟩
  f26 := ⟨Tryz.f93.name, by decide, Tryz.func93.trans (congrArg some (by kernel_rfl))⟩
  f27 := ⟨Tryz.f94.name, by decide, Tryz.func94.trans (congrArg some (by kernel_rfl))⟩
  f28 := Tryz.func72.trans (congrArg some (by kernel_rfl))
  f29 := Tryz.func73.trans (congrArg some (by kernel_rfl))
  f46 := ⟨Tryz.f101.name, by decide, Tryz.func101.trans (congrArg some (by kernel_rfl))⟩
  f47 := Tryz.func80.trans (congrArg some (by kernel_rfl))
  f48 := Tryz.func81.trans (congrArg some (by kernel_rfl))
  f49 := ⟨Tryz.f102.name, by decide, Tryz.func102.trans (congrArg some (by kernel_rfl))⟩
  f50 := ⟨Tryz.f103.name, by decide, Tryz.func103.trans (congrArg some (by kernel_rfl))⟩
  f57 := ⟨Tryz.f108.name, by decide, Tryz.func108.trans (congrArg some (by kernel_rfl))⟩
  t0 := Tryz.underlying0
  a0 := Tryz.isAgg0
  z0 := Tryz.sizeOf0
  v0 := Tryz.zeroValue0
  t3 := Tryz.underlying3
  a3 := Tryz.isAgg3
  z3 := Tryz.sizeOf3
  v3 := Tryz.zeroValue3
  t4 := Tryz.underlying4
  a4 := Tryz.isAgg4
  z4 := Tryz.sizeOf4
  v4 := Tryz.zeroValue4
  t5 := Tryz.underlying5
  a5 := Tryz.isAgg5
  z5 := Tryz.sizeOf5
  v5 := Tryz.zeroValue5
  t9 := Tryz.underlying9
  a9 := Tryz.isAgg9
  z9 := Tryz.sizeOf9
  v9 := Tryz.zeroValue9
  t22 := Tryz.underlying45
  a22 := Tryz.isAgg45
  z22 := Tryz.sizeOf45
  v22 := Tryz.zeroValue45
  t25 := Tryz.underlying120
  a25 := Tryz.isAgg120
  z25 := Tryz.sizeOf120
  v25 := Tryz.zeroValue120
  t39 := Tryz.underlying102
  a39 := Tryz.isAgg102
  z39 := Tryz.sizeOf102
  v39 := Tryz.zeroValue102
  t45 := Tryz.underlying123
  a45 := Tryz.isAgg123
  z45 := Tryz.sizeOf123
  v45 := Tryz.zeroValue123
  t46 := Tryz.underlying124
  a46 := Tryz.isAgg124
  z46 := Tryz.sizeOf124
  v46 := Tryz.zeroValue124
  t50 := Tryz.underlying95
  a50 := Tryz.isAgg95
  z50 := Tryz.sizeOf95
  v50 := Tryz.zeroValue95
  t53 := Tryz.underlying130
  a53 := Tryz.isAgg130
  z53 := Tryz.sizeOf130
  v53 := Tryz.zeroValue130
  t55 := Tryz.underlying132
  a55 := Tryz.isAgg132
  z55 := Tryz.sizeOf132
  v55 := Tryz.zeroValue132
  t66 := Tryz.underlying136
  a66 := Tryz.isAgg136
  z66 := Tryz.sizeOf136
  v66 := Tryz.zeroValue136
  t70 := Tryz.underlying140
  a70 := Tryz.isAgg140
  z70 := Tryz.sizeOf140
  v70 := Tryz.zeroValue140
  t76 := Tryz.underlying151
  a76 := Tryz.isAgg151
  z76 := Tryz.sizeOf151
  v76 := Tryz.zeroValue151
  t77 := Tryz.underlying152
  a77 := Tryz.isAgg152
  z77 := Tryz.sizeOf152
  v77 := Tryz.zeroValue152 }
end Go.Proofs.YtchlojabjmlodaaGreatDoor.AM

/- The sorts. -/
namespace Go.Proofs.YtchlojabjmlodaaGreatDoor.AM
open Go Go.Shelf Go.RowKit Go.Proofs

theorem sortEn_30 : enters Tryz.prog 30 = true := by kernel_rfl
theorem sortCon_30_17 : SortCon Tryz.prog 30 17 1 true :=
  sortCon1_of sortLay 17 (enters_of Tryz.func17 (by kernel_rfl) rfl)
theorem sortCon0_30_17 : SortCon0 Tryz.prog 30 17 := fun a cap w => AnyF.slices_SortFunc_none { sortLay with } a cap _ w
theorem sortEn_60 : enters Tryz.prog 60 = true := by kernel_rfl
theorem sortCon_60_61 : SortCon Tryz.prog 60 61 7 false :=
  sortCon_of sortLay60 7 (ti_agg (ti_of (t := 73) rfl)) (ti_size (ti_of (t := 73) rfl)) 61 (enters_of Tryz.func61 (by kernel_rfl) rfl)
theorem sortCon0_60_61 : SortCon0 Tryz.prog 60 61 := fun a cap w => AnyF.slices_SortFunc_none sortLay60 a cap _ w
end Go.Proofs.YtchlojabjmlodaaGreatDoor.AM
