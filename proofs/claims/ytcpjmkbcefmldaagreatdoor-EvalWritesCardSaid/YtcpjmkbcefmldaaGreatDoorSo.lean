/- A part of the proof: S0, Am22, So. -/
import Derived.Test.YtcpjmkbcefmldaaGreatDoorProg
import Derived.Shelf.SlSortCmp.WholeK
import Derived.Shelf.SlSortCmp.NoneTotal
import Derived.Ground.SlsfProg
import Derived.Test.YtcpjmkbcefmldaaGreatDoorA3
import Derived.Test.YtcpjmkbcefmldaaGreatDoorTy
set_option linter.all false
/- The sort, laid. -/
namespace Go.Proofs.YtcpjmkbcefmldaaGreatDoor.AM
open Go Go.Shelf Go.Proofs
def sortLay_ren : Go.Shelf.Ren := ⟨fun | 6 => 74 | 15 => 91 | 14 => 90 | 28 => 111 | 29 => 112 | 20 => 103 | 21 => 104 | 22 => 105 | 23 => 106 | 24 => 107 | 25 => 108 | 26 => 109 | 27 => 110 | 46 => 117 | 47 => 118 | 48 => 119 | 49 => 120 | 50 => 121 | 57 => 132 | n => n, fun | 22 => 28 | 24 => 51 | 25 => 108 | 3 => 3 | 39 => 149 | 0 => 0 | 53 => 176 | 55 => 178 | 4 => 4 | 46 => 170 | 45 => 169 | 50 => 116 | 5 => 5 | 9 => 9 | 66 => 182 | 70 => 186 | 76 => 196 | 77 => 197 | n => n, fun | n => n⟩
theorem sortLay : Go.Proofs.SlLaysF0.n6 Tryz.prog sortLay_ren := {
  mixed := by kernel_rfl
  f6 := ⟨Tryz.f74.name, by decide, Tryz.func74.trans (congrArg some (by kernel_rfl))⟩
  f14 := ⟨Tryz.f90.name, by decide, Tryz.func90.trans (congrArg some (by kernel_rfl))⟩
  f15 := Tryz.func91.trans (congrArg some (by kernel_rfl))
  f20 := ⟨Tryz.f103.name, by decide, Tryz.func103.trans (congrArg some (by kernel_rfl))⟩
  f21 := ⟨Tryz.f104.name, by decide, Tryz.func104.trans (congrArg some (by kernel_rfl))⟩
  f22 := ⟨Tryz.f105.name, by decide, Tryz.func105.trans (congrArg some (by kernel_rfl))⟩
  f23 := ⟨Tryz.f106.name, by decide, Tryz.func106.trans (congrArg some (by kernel_rfl))⟩
  f24 := ⟨Tryz.f107.name, by decide, Tryz.func107.trans (congrArg some (by kernel_rfl))⟩
  f25 := ⟨Tryz.f108.name, by decide, Tryz.func108.trans (congrArg some (by kernel_rfl))⟩
  f26 := ⟨Tryz.f109.name, by decide, Tryz.func109.trans (congrArg some (by kernel_rfl))⟩
  f27 := ⟨Tryz.f110.name, by decide, Tryz.func110.trans (congrArg some (by kernel_rfl))⟩
  f28 := Tryz.func111.trans (congrArg some (by kernel_rfl))
  f29 := Tryz.func112.trans (congrArg some (by kernel_rfl))
  f46 := ⟨Tryz.f117.name, by decide, Tryz.func117.trans (congrArg some (by kernel_rfl))⟩
  f47 := Tryz.func118.trans (congrArg some (by kernel_rfl))
  f48 := Tryz.func119.trans (congrArg some (by kernel_rfl))
  f49 := ⟨Tryz.f120.name, by decide, Tryz.func120.trans (congrArg some (by kernel_rfl))⟩
  f50 := ⟨Tryz.f121.name, by decide, Tryz.func121.trans (congrArg some (by kernel_rfl))⟩
  f57 := ⟨Tryz.f132.name, by decide, Tryz.func132.trans (congrArg some (by kernel_rfl))⟩
  t0 := Tryz.underlying0
  a0 := Tryz.isAgg0
  z0 := Tryz.sizeOf0
  v0 := Tryz.zeroValue0
  t3 := Tryz.underlying3
  a3 := Tryz.isAgg3
  z3 := Tryz.sizeOf3
  v3 := Tryz.zeroValue3
  t4 := Tryz.underlying4
  a4 := Tryz.isAgg4
  z4 := Tryz.sizeOf4
  v4 := Tryz.zeroValue4
  t5 := Tryz.underlying5
  a5 := Tryz.isAgg5
  z5 := Tryz.sizeOf5
  v5 := Tryz.zeroValue5
  t9 := Tryz.underlying9
  a9 := Tryz.isAgg9
  z9 := Tryz.sizeOf9
  v9 := Tryz.zeroValue9
  t22 := Tryz.underlying28
  a22 := Tryz.isAgg28
  z22 := Tryz.sizeOf28
  v22 := Tryz.zeroValue28
  t25 := Tryz.underlying108
  a25 := Tryz.isAgg108
  z25 := Tryz.sizeOf108
  v25 := Tryz.zeroValue108
  t39 := Tryz.underlying149
  a39 := Tryz.isAgg149
  z39 := Tryz.sizeOf149
  v39 := Tryz.zeroValue149
  t45 := Tryz.underlying169
  a45 := Tryz.isAgg169
  z45 := Tryz.sizeOf169
  v45 := Tryz.zeroValue169
  t46 := Tryz.underlying170
  a46 := Tryz.isAgg170
  z46 := Tryz.sizeOf170
  v46 := Tryz.zeroValue170
  t50 := Tryz.underlying116
  a50 := Tryz.isAgg116
  z50 := Tryz.sizeOf116
  v50 := Tryz.zeroValue116
  t53 := Tryz.underlying176
  a53 := Tryz.isAgg176
  z53 := Tryz.sizeOf176
  v53 := Tryz.zeroValue176
  t55 := Tryz.underlying178
  a55 := Tryz.isAgg178
  z55 := Tryz.sizeOf178
  v55 := Tryz.zeroValue178
  t66 := Tryz.underlying182
  a66 := Tryz.isAgg182
  z66 := Tryz.sizeOf182
  v66 := Tryz.zeroValue182
  t70 := Tryz.underlying186
  a70 := Tryz.isAgg186
  z70 := Tryz.sizeOf186
  v70 := Tryz.zeroValue186
  t76 := Tryz.underlying196
  a76 := Tryz.isAgg196
  z76 := Tryz.sizeOf196
  v76 := Tryz.zeroValue196
  t77 := Tryz.underlying197
  a77 := Tryz.isAgg197
  z77 := Tryz.sizeOf197
  v77 := Tryz.zeroValue197 }
def sortLay99_ren : Go.Shelf.Ren := ⟨fun | 6 => 99 | 15 => 91 | 14 => 115 | 28 => 111 | 29 => 112 | 20 => 124 | 21 => 125 | 22 => 126 | 23 => 127 | 24 => 128 | 25 => 129 | 26 => 130 | 27 => 131 | 46 => 137 | 47 => 118 | 48 => 119 | 49 => 138 | 50 => 139 | 57 => 144 | n => n, fun | 22 => 69 | 24 => 83 | 25 => 166 | 3 => 3 | 39 => 149 | 0 => 0 | 53 => 176 | 55 => 178 | 4 => 4 | 46 => 170 | 45 => 169 | 50 => 116 | 5 => 5 | 9 => 9 | 66 => 182 | 70 => 186 | 76 => 196 | 77 => 197 | n => n, fun | n => n⟩
theorem sortLay99 : Go.Proofs.SlLaysF0.n6 Tryz.prog sortLay99_ren := {
  mixed := by kernel_rfl
  f6 := ⟨Tryz.f99.name, by decide, Tryz.func99.trans (congrArg some (by kernel_rfl))⟩
  f14 := ⟨Tryz.f115.name, by decide, Tryz.func115.trans (congrArg some (by kernel_rfl))⟩
  f15 := Tryz.func91.trans (congrArg some (by kernel_rfl))
  f20 := ⟨Tryz.f124.name, by decide, Tryz.func124.trans (congrArg some (by kernel_rfl))⟩
  f21 := ⟨Tryz.f125.name, by decide, Tryz.func125.trans (congrArg some (by kernel_rfl))⟩
  f22 := ⟨Tryz.f126.name, by decide, Tryz.func126.trans (congrArg some (by kernel_rfl))⟩
  f23 := ⟨Tryz.f127.name, by decide, Tryz.func127.trans (congrArg some (by kernel_rfl))⟩
  f24 := ⟨Tryz.f128.name, by decide, Tryz.func128.trans (congrArg some (by kernel_rfl))⟩
  f25 := ⟨Tryz.f129.name, by decide, Tryz.func129.trans (congrArg some (by kernel_rfl))⟩
  f26 := ⟨Tryz.f130.name, by decide, Tryz.func130.trans (congrArg some (by kernel_rfl))⟩
  f27 := ⟨Tryz.f131.name, by decide, Tryz.func131.trans (congrArg some (by kernel_rfl))⟩
  f28 := Tryz.func111.trans (congrArg some (by kernel_rfl))
  f29 := Tryz.func112.trans (congrArg some (by kernel_rfl))
  f46 := ⟨Tryz.f137.name, by decide, Tryz.func137.trans (congrArg some (by kernel_rfl))⟩
  f47 := Tryz.func118.trans (congrArg some (by kernel_rfl))
  f48 := Tryz.func119.trans (congrArg some (by kernel_rfl))
  f49 := ⟨Tryz.f138.name, by decide, Tryz.func138.trans (congrArg some (by kernel_rfl))⟩
  f50 := ⟨Tryz.f139.name, by decide, Tryz.func139.trans (congrArg some (by kernel_rfl))⟩
  f57 := ⟨Tryz.f144.name, by decide, Tryz.func144.trans (congrArg some (by kernel_rfl))⟩
  t0 := Tryz.underlying0
  a0 := Tryz.isAgg0
  z0 := Tryz.sizeOf0
  v0 := Tryz.zeroValue0
  t3 := Tryz.underlying3
  a3 := Tryz.isAgg3
  z3 := Tryz.sizeOf3
  v3 := Tryz.zeroValue3
  t4 := Tryz.underlying4
  a4 := Tryz.isAgg4
  z4 := Tryz.sizeOf4
  v4 := Tryz.zeroValue4
  t5 := Tryz.underlying5
  a5 := Tryz.isAgg5
  z5 := Tryz.sizeOf5
  v5 := Tryz.zeroValue5
  t9 := Tryz.underlying9
  a9 := Tryz.isAgg9
  z9 := Tryz.sizeOf9
  v9 := Tryz.zeroValue9
  t22 := Tryz.underlying69
  a22 := Tryz.isAgg69
  z22 := Tryz.sizeOf69
  v22 := Tryz.zeroValue69
  t25 := Tryz.underlying166
  a25 := Tryz.isAgg166
  z25 := Tryz.sizeOf166
  v25 := Tryz.zeroValue166
  t39 := Tryz.underlying149
  a39 := Tryz.isAgg149
  z39 := Tryz.sizeOf149
  v39 := Tryz.zeroValue149
  t45 := Tryz.underlying169
  a45 := Tryz.isAgg169
  z45 := Tryz.sizeOf169
  v45 := Tryz.zeroValue169
  t46 := Tryz.underlying170
  a46 := Tryz.isAgg170
  z46 := Tryz.sizeOf170
  v46 := Tryz.zeroValue170
  t50 := Tryz.underlying116
  a50 := Tryz.isAgg116
  z50 := Tryz.sizeOf116
  v50 := Tryz.zeroValue116
  t53 := Tryz.underlying176
  a53 := Tryz.isAgg176
  z53 := Tryz.sizeOf176
  v53 := Tryz.zeroValue176
  t55 := Tryz.underlying178
  a55 := Tryz.isAgg178
  z55 := Tryz.sizeOf178
  v55 := Tryz.zeroValue178
  t66 := Tryz.underlying182
  a66 := Tryz.isAgg182
  z66 := Tryz.sizeOf182
  v66 := Tryz.zeroValue182
  t70 := Tryz.underlying186
  a70 := Tryz.isAgg186
  z70 := Tryz.sizeOf186
  v70 := Tryz.zeroValue186
  t76 := Tryz.underlying196
  a76 := Tryz.isAgg196
  z76 := Tryz.sizeOf196
  v76 := Tryz.zeroValue196
  t77 := Tryz.underlying197
  a77 := Tryz.isAgg197
  z77 := Tryz.sizeOf197
  v77 := Tryz.zeroValue197 }
end Go.Proofs.YtcpjmkbcefmldaaGreatDoor.AM

/- The library's sort keeps the contract. -/
namespace Go.Proofs.YtcpjmkbcefmldaaGreatDoor.AM
open Go Go.Shelf Go.RowKit Go.Lib Go.Sort

theorem sortWorldK_turned {α : Type} [Inhabited α] (enc : α → List Value) (k : Nat) (w : World) (blk n : Nat) (d : Array α) (os : Array Go.Obj) : Turned w (sortWorldK enc k w blk 0 n d os) blk := by
  refine ⟨fun j hj hlt => ?_, ?_, rfl, rfl, rfl, ?_⟩
  · simp only [sortWorldK, grow, putRowK, putRow, mapBlock, Sort.ahead]
    rw [Array.getElem?_append_left (by simpa using hlt), Array.getElem?_modify, if_neg (Ne.symm hj)]
  · simp [sortWorldK, grow, putRowK, putRow, mapBlock, Sort.ahead]
  · show w.drawn ≤ w.drawn + n
    omega

theorem sortWorldK_row {α : Type} [Inhabited α] (enc : α → List Value) (k : Nat) (w : World) (blk n : Nat) (d : Array α) (os : Array Go.Obj) {c : Array Value} {e : TypeId} {t : Nat × Nat} (hb : blk < w.heap.size) (h : w.heap[blk]? = some (.cells c e t))
    (hs : d.size * k ≤ c.size) : ∃ c', (sortWorldK enc k w blk 0 n d os).heap[blk]? = some (.cells c' e t) ∧ c'.size = c.size ∧ ∀ j, j < d.size * k → c'[j]? = some ((enc d[j / k]!)[j % k]!) := by
  refine ⟨putCells id 0 (flatK enc k d) c, ?_, by simp [putCells], ?_⟩
  · simp only [sortWorldK, grow, putRowK, putRow, mapBlock, Sort.ahead]
    rw [Array.getElem?_append_left (by simpa using hb), Array.getElem?_modify, if_pos rfl, h]
    rfl
  · intro j hj
    have hjc : j < c.size := by omega
    simp only [putCells, Array.getElem?_mapIdx, Array.getElem?_eq_getElem hjc, Option.map_some, size_flatK]
    rw [if_pos ⟨Nat.zero_le _, by omega⟩, Nat.sub_zero, get_flatK _ _ _ _ hj]
    rfl

theorem pairwise_sorted {α : Type} [Inhabited α] {lt : α → α → Bool} {d : Array α} (h : SortedIn lt 0 d.size d) : d.toList.Pairwise (fun x y => lt y x = false) := by
  rw [List.pairwise_iff_getElem]
  intro i j hi hj hij
  have := h i j (Nat.zero_le _) hij (by simpa using hj)
  have hi' : i < d.size := by simpa using hi
  have hj' : j < d.size := by simpa using hj
  rw [getElem!_pos d i hi', getElem!_pos d j hj'] at this
  simpa using this

theorem sortCon_of {P : Program} {ρ : Ren} (L : SlLaysF0.n6 P ρ) (k : Nat) (aE : ∀ w, (isAgg (ρ.t 24)).run P w = .ok true w) (zE : ∀ w, (Go.sizeOf (ρ.t 24)).run P w = .ok k w) (g : Nat)
    (eg : ∀ args w, (callFunc g args).run P w = .ok (.enter g args) w) : SortCon P (ρ.f 6) g k false := by
  intro α _ enc cf blk cap d w hk h1 o1 o2 o3 hcmp hH hblk hsz
  have hO : SWO (ltOf cf) := ⟨fun x => by simpa [ltOf] using o1 x, fun x y z a b => by simp only [ltOf, decide_eq_true_eq] at *; exact o2 x y z a b,
    fun x y z a b => by simp only [ltOf, decide_eq_false_iff_not] at *; exact o3 x y z a b⟩
  have hc : CmpLays P g #[] enc k cf blk 0 d.size w := by
    intro m os dk hs x y
    refine (hcmp _ (sortWorldK_turned enc k w blk m dk os) x y).mono ?_
    rintro e w' ⟨h1, q, os', h2⟩
    exact ⟨h1, q, os', h2⟩
  have hh : HoldsK enc k w blk 0 d := by
    intro j hj
    have hj' : j < d.size * k := by simpa using hj
    obtain ⟨e1, e2⟩ := hH j hj'
    rw [get_flatK _ _ _ _ hj', Nat.zero_add]
    exact ⟨e1, e2⟩
  refine (AnyQ.slices_SortFunc L k aE zE enc hk h1 cf hO g #[] blk 0 cap d w eg hc hh hblk hsz).mono ?_
  rintro e w' ⟨rfl, d', n, os, hp, hs, rfl⟩
  have hsz' : d'.size = d.size := hp.1
  refine ⟨rfl, sortWorldK_turned enc k w blk n d' os, d', ?_, ?_, ?_⟩
  · have := hp.2.2
    have e1 : d'.extract 0 d.size = d' := by rw [← hsz']; exact Array.extract_size
    have e2 : d.extract 0 d.size = d := Array.extract_size
    rw [e1, e2] at this
    exact this
  · rw [← hsz'] at hs
    refine (pairwise_sorted hs).imp ?_
    intro x y h
    simpa [ltOf] using h
  · intro c e t hct
    have hle : d'.size * k ≤ c.size := by
      rw [hsz']
      rcases Nat.eq_zero_or_pos (d.size * k) with h0 | h0
      · omega
      · obtain ⟨e1, _⟩ := hH (d.size * k - 1) (by omega)
        rw [cell_cells hct] at e1
        rcases Nat.lt_or_ge (d.size * k - 1) c.size with h | h
        · omega
        · rw [Array.getElem?_eq_none h] at e1; cases e1
    have := sortWorldK_row enc k w blk n d' os hblk hct hle
    rw [hsz'] at this
    exact this

end Go.Proofs.YtcpjmkbcefmldaaGreatDoor.AM

/- The sorts. -/
namespace Go.Proofs.YtcpjmkbcefmldaaGreatDoor.AM
open Go Go.Shelf Go.RowKit Go.Proofs

theorem sortEn_74 : enters Tryz.prog 74 = true := by kernel_rfl
theorem sortCon_74_75 : SortCon Tryz.prog 74 75 2 false :=
  sortCon_of sortLay 2 (ti_agg (ti_of (t := 51) rfl)) (ti_size (ti_of (t := 51) rfl)) 75 (enters_of Tryz.func75 (by kernel_rfl) rfl)
theorem sortCon0_74_75 : SortCon0 Tryz.prog 74 75 := fun a cap w => AnyF.slices_SortFunc_none sortLay a cap _ w
theorem sortEn_99 : enters Tryz.prog 99 = true := by kernel_rfl
theorem sortCon_99_100 : SortCon Tryz.prog 99 100 7 false :=
  sortCon_of sortLay99 7 (ti_agg (ti_of (t := 83) rfl)) (ti_size (ti_of (t := 83) rfl)) 100 (enters_of Tryz.func100 (by kernel_rfl) rfl)
theorem sortCon0_99_100 : SortCon0 Tryz.prog 99 100 := fun a cap w => AnyF.slices_SortFunc_none sortLay99 a cap _ w
end Go.Proofs.YtcpjmkbcefmldaaGreatDoor.AM
