/- The library's sort keeps the contract. -/
import Derived.Test.YtickejlolpoboaaAm21
import Derived.Shelf.SlSortCmp.WholeK
import Derived.Shelf.SlSortCmp.NoneTotal
set_option linter.all false
namespace Go.Proofs.Ytickejlolpoboaa.AM
open Go Go.Shelf Go.RowKit Go.Lib Go.Sort

theorem sortWorldK_turned {α : Type} [Inhabited α] (enc : α → List Value) (k : Nat) (w : World) (blk n : Nat) (d : Array α) (os : Array Go.Obj) : Turned w (sortWorldK enc k w blk 0 n d os) blk := by
  refine ⟨fun j hj hlt => ?_, ?_, rfl, rfl, rfl, ?_⟩
  · simp only [sortWorldK, grow, putRowK, putRow, mapBlock, Sort.ahead]
    rw [Array.getElem?_append_left (by simpa using hlt), Array.getElem?_modify, if_neg (Ne.symm hj)]
  · simp [sortWorldK, grow, putRowK, putRow, mapBlock, Sort.ahead]
  · show w.drawn ≤ w.drawn + n
    omega

theorem sortWorldK_row {α : Type} [Inhabited α] (enc : α → List Value) (k : Nat) (w : World) (blk n : Nat) (d : Array α) (os : Array Go.Obj) {c : Array Value} {e : TypeId} {t : Nat × Nat} (hb : blk < w.heap.size) (h : w.heap[blk]? = some (.cells c e t))
    (hs : d.size * k ≤ c.size) : ∃ c', (sortWorldK enc k w blk 0 n d os).heap[blk]? = some (.cells c' e t) ∧ c'.size = c.size ∧ ∀ j, j < d.size * k → c'[j]? = some ((enc d[j / k]!)[j % k]!) := by
  refine ⟨putCells id 0 (flatK enc k d) c, ?_, by simp [putCells], ?_⟩
  · simp only [sortWorldK, grow, putRowK, putRow, mapBlock, Sort.ahead]
    rw [Array.getElem?_append_left (by simpa using hb), Array.getElem?_modify, if_pos rfl, h]
    rfl
  · intro j hj
    have hjc : j < c.size := by omega
    simp only [putCells, Array.getElem?_mapIdx, Array.getElem?_eq_getElem hjc, Option.map_some, size_flatK]
    rw [if_pos ⟨Nat.zero_le _, by omega⟩, Nat.sub_zero, get_flatK _ _ _ _ hj]
    rfl

theorem pairwise_sorted {α : Type} [Inhabited α] {lt : α → α → Bool} {d : Array α} (h : SortedIn lt 0 d.size d) : d.toList.Pairwise (fun x y => lt y x = false) := by
  rw [List.pairwise_iff_getElem]
  intro i j hi hj hij
  have := h i j (Nat.zero_le _) hij (by simpa using hj)
  have hi' : i < d.size := by simpa using hi
  have hj' : j < d.size := by simpa using hj
  rw [getElem!_pos d i hi', getElem!_pos d j hj'] at this
  simpa using this

theorem sortCon_of {P : Program} {ρ : Ren} (L : SlLaysF0.n6 P ρ) (k : Nat) (aE : ∀ w, (isAgg (ρ.t 24)).run P w = .ok true w) (zE : ∀ w, (Go.sizeOf (ρ.t 24)).run P w = .ok k w) (g : Nat)
    (eg : ∀ args w, (callFunc g args).run P w = .ok (.enter g args) w) : SortCon P (ρ.f 6) g k := by
  intro α _ enc cf blk cap d w hk h1 o1 o2 o3 hcmp hH hblk hsz
  have hO : SWO (ltOf cf) := ⟨fun x => by simpa [ltOf] using o1 x, fun x y z a b => by simp only [ltOf, decide_eq_true_eq] at *; exact o2 x y z a b,
    fun x y z a b => by simp only [ltOf, decide_eq_false_iff_not] at *; exact o3 x y z a b⟩
  have hc : CmpLays P g #[] enc k cf blk 0 d.size w := by
    intro m os dk hs x y
    refine (hcmp _ (sortWorldK_turned enc k w blk m dk os) x y).mono ?_
    rintro e w' ⟨h1, q, os', h2⟩
    exact ⟨h1, q, os', h2⟩
  have hh : HoldsK enc k w blk 0 d := by
    intro j hj
    have hj' : j < d.size * k := by simpa using hj
    obtain ⟨e1, e2⟩ := hH j hj'
    rw [get_flatK _ _ _ _ hj', Nat.zero_add]
    exact ⟨e1, e2⟩
  refine (AnyQ.slices_SortFunc L k aE zE enc hk h1 cf hO g #[] blk 0 cap d w eg hc hh hblk hsz).mono ?_
  rintro e w' ⟨rfl, d', n, os, hp, hs, rfl⟩
  have hsz' : d'.size = d.size := hp.1
  refine ⟨rfl, sortWorldK_turned enc k w blk n d' os, d', ?_, ?_, ?_⟩
  · have := hp.2.2
    have e1 : d'.extract 0 d.size = d' := by rw [← hsz']; exact Array.extract_size
    have e2 : d.extract 0 d.size = d := Array.extract_size
    rw [e1, e2] at this
    exact this
  · rw [← hsz'] at hs
    refine (pairwise_sorted hs).imp ?_
    intro x y h
    simpa [ltOf] using h
  · intro c e t hct
    have hle : d'.size * k ≤ c.size := by
      rw [hsz']
      rcases Nat.eq_zero_or_pos (d.size * k) with h0 | h0
      · omega
      · obtain ⟨e1, _⟩ := hH (d.size * k - 1) (by omega)
        rw [cell_cells hct] at e1
        rcases Nat.lt_or_ge (d.size * k - 1) c.size with h | h
        · omega
        · rw [Array.getElem?_eq_none h] at e1; cases e1
    have := sortWorldK_row enc k w blk n d' os hblk hct hle
    rw [hsz'] at this
    exact this

end Go.Proofs.Ytickejlolpoboaa.AM
