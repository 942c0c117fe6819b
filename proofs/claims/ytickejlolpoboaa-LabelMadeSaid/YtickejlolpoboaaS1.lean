/- S1: a part of the proof. -/
import Derived.Test.YtickejlolpoboaaAm22
import Derived.Test.YtickejlolpoboaaAm23
import Derived.Test.YtickejlolpoboaaS0
import Derived.Test.YtickejlolpoboaaL4
set_option linter.all false
namespace Go.Proofs.Ytickejlolpoboaa.AM
open Go Go.Shelf Go.RowKit Go.Lib Go.Sort Go.Proofs

def decP : List D → Pr
  | .v (.string a) :: .v (.string b) :: _ => (a, b)
  | _ => default
theorem decP_encP (p : Pr) : decP (encP p) = p := rfl

theorem cmpS_neg {a b : ByteArray} : cmpS a b < 0 ↔ lessB a b = true := by
  unfold cmpS
  split
  · simp [*]
  · split <;> simp [*]

theorem sortCon30 : SortCon Try.prog 30 31 2 :=
  sortCon_of sortLay 2 (ti_agg ti29) (ti_size ti29) 31 (enters_of Try.func31 (by kernel_rfl) rfl)
theorem sortCon30n : SortCon0 Try.prog 30 31 := fun a cap w => AnyF.slices_SortFunc_none sortLay a cap _ w

theorem call30 {l : List Pr} {o : Nat} {objs : List Obj} {K : AV → List Obj → Prop} {E : AV → List Obj → Prop} (ho : objs[o]? = some (.box (rowCells (encPs l)))) (hl : l.length ≤ 1000)
    (h : ∀ l' : List Pr, l'.Perm l → l'.Pairwise (fun p q => lessB q.1 p.1 = false) → K (.tup []) (objs.set o (.box (rowCells (encPs l'))))) : callAV Try.prog 30 [.bsl o 0 l.length, .fn 31 [] []] objs K E := by
  refine ⟨by kernel_rfl, ?_⟩
  have := sort_acall (P := Try.prog) (f := 30) (g := 31) (k := 2) sortCon30 sortCon30n (by omega) (rows := encPs l) ho (by intro r hr; obtain ⟨p, _, rfl⟩ := List.mem_map.1 hr; rfl)
    (fun x y => cmpS (decP x).1 (decP y).1)
    (fun x _ => by rw [cmpS_neg, lessB_irrefl]; simp)
    (fun x _ y _ z _ h1 h2 => by rw [cmpS_neg] at *; exact lessB_trans h1 h2)
    (fun x _ y _ z _ h1 h2 => by rw [cmpS_neg] at *; rw [Bool.not_eq_true] at *; exact lessB_ntrans h1 h2)
    (by
      intro x hx y hy
      obtain ⟨p, _, rfl⟩ := List.mem_map.1 hx
      obtain ⟨q, _, rfl⟩ := List.mem_map.1 hy
      exact ⟨[], make1_any p q⟩)
    (by simp; omega)
  rw [encPs_length] at this
  refine this.mono ?_
  rintro ae o' ⟨rfl, rows', hp, hs, rfl⟩
  have hr : rows' = encPs (rows'.map decP) := by
    rw [encPs, List.map_map]
    symm
    conv => rhs; rw [← List.map_id rows']
    refine List.map_congr_left ?_
    intro r hr
    obtain ⟨p, _, rfl⟩ := List.mem_map.1 (hp.mem_iff.1 hr)
    rfl
  have := h (rows'.map decP) ?_ ?_
  · rw [← hr] at this; exact this
  · have := hp.map decP
    rw [encPs, List.map_map] at this
    have e : l.map (decP ∘ encP) = l := (List.map_congr_left (fun p _ => rfl)).trans (List.map_id l)
    rw [e] at this
    exact this
  · rw [List.pairwise_map]
    refine hs.imp ?_
    intro a b hab
    rw [cmpS_neg] at hab
    simpa using hab
end Go.Proofs.Ytickejlolpoboaa.AM
