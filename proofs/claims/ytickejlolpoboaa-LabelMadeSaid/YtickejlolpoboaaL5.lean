/- L5: a part of the proof. -/
import Derived.Test.YtickejlolpoboaaS1
set_option linter.all false

namespace Go.Proofs.Ytickejlolpoboaa.AM
open Go Go.Proofs

/-! ### Make, in plain words -/

def tooLong (p : Pr) : Bool := decide (64 < p.2.size)
def twice : List Pr → Bool
  | [] => false
  | p :: l => l.any (fun q => decide (q.1 = p.1)) || twice l
def insP (p : Pr) : List Pr → List Pr
  | [] => [p]
  | q :: l => if lessB p.1 q.1 then p :: q :: l else q :: insP p l
def sortP : List Pr → List Pr
  | [] => []
  | p :: l => insP p (sortP l)
def wrongE (l : List Pr) : Int :=
  if 16 < l.length then 4 else if l.any tooLong then 4 else if l.all (fun p => nameB p.1) then (if twice l then 6 else 0) else 7
def makeL (l : List Pr) : List Pr × Int := if wrongE l = 0 then (sortP l, 0) else ([], wrongE l)

theorem insP_perm (p : Pr) : ∀ l, (insP p l).Perm (p :: l)
  | [] => .refl _
  | q :: l => by
    unfold insP
    split
    · exact .refl _
    · exact ((insP_perm p l).cons q).trans (.swap p q l)
theorem sortP_perm : ∀ l, (sortP l).Perm l
  | [] => .refl _
  | p :: l => (insP_perm p _).trans ((sortP_perm l).cons p)

def Asc (l : List Pr) : Prop := l.Pairwise (fun p q => lessB q.1 p.1 = false)
theorem insP_asc (p : Pr) : ∀ {l : List Pr}, Asc l → Asc (insP p l)
  | [], _ => by simp [insP, Asc]
  | q :: l, h => by
    obtain ⟨h1, h2⟩ := List.pairwise_cons.1 h
    unfold insP
    split
    · rename_i hl
      refine List.pairwise_cons.2 ⟨?_, h⟩
      intro r hr
      rcases List.mem_cons.1 hr with rfl | hr
      · exact lessB_asymm hl
      · have := h1 r hr
        cases hc : lessB r.1 p.1
        · rfl
        · have := lessB_trans hc hl; rw [h1 r hr] at this; cases this
    · rename_i hl
      refine List.pairwise_cons.2 ⟨?_, insP_asc p h2⟩
      intro r hr
      rcases List.mem_cons.1 ((insP_perm p l).mem_iff.1 hr) with rfl | hr
      · simpa using hl
      · exact h1 r hr
theorem sortP_asc : ∀ l, Asc (sortP l)
  | [] => .nil
  | p :: l => insP_asc p (sortP_asc l)

theorem twice_nodup : ∀ {l : List Pr}, twice l = false → (l.map (·.1)).Nodup
  | [], _ => .nil
  | p :: l, h => by
    simp only [twice, Bool.or_eq_false_iff, List.any_eq_false, decide_eq_true_eq] at h
    simp only [List.map_cons, List.nodup_cons, List.mem_map, not_exists, not_and]
    exact ⟨fun q hq => h.1 q hq, twice_nodup h.2⟩

/-- Sorted, with no name twice: only one way. -/
theorem asc_unique : ∀ {l m : List Pr}, Asc l → Asc m → l.Perm m → (l.map (·.1)).Nodup → l = m
  | [], m, _, _, h, _ => (List.nil_perm.1 h).symm
  | p :: l, [], _, _, h, _ => absurd h.length_eq (by simp)
  | p :: l, q :: m, h1, h2, h3, h4 => by
    obtain ⟨a1, a2⟩ := List.pairwise_cons.1 h1
    obtain ⟨b1, b2⟩ := List.pairwise_cons.1 h2
    have hpq : p = q := by
      have hp : p ∈ q :: m := h3.mem_iff.1 List.mem_cons_self
      have hq : q ∈ p :: l := h3.mem_iff.2 List.mem_cons_self
      rcases List.mem_cons.1 hp with h | hp
      · exact h
      rcases List.mem_cons.1 hq with h | hq
      · exact h.symm
      have e := lessB_total (a1 q hq) (b1 p hp)
      have hn := (List.nodup_cons.1 h4).1
      exact (hn (List.mem_map.2 ⟨q, hq, e⟩)).elim
    subst hpq
    rw [asc_unique a2 b2 (h3.cons_inv) (List.nodup_cons.1 h4).2]

theorem sortP_eq {l m : List Pr} (h : twice l = false) (hp : m.Perm l) (ha : Asc m) : m = sortP l :=
  asc_unique ha (sortP_asc l) (hp.trans (sortP_perm l).symm) ((hp.map (·.1)).nodup_iff.2 (twice_nodup h))

def mapOf (l : List Pr) : List (Value × AV) := l.map fun p => (Value.string p.1, AV.v (.bool true))
theorem mapOf_keys (l : List Pr) : keysOk .string (mapOf l) = True := eq_true (by
  intro e he; obtain ⟨p, _, rfl⟩ := List.mem_map.1 he; rfl)
theorem mget_mapOf (n : ByteArray) : ∀ l : List Pr, mget (mapOf l) (.string n) = if l.any (fun q => decide (q.1 = n)) then some (.v (.bool true)) else none
  | [] => rfl
  | p :: l => by
    have ih := mget_mapOf n l
    simp only [mapOf] at ih
    simp only [mapOf, List.map_cons, mget, keyEq, List.any_cons, ih]
    by_cases h : p.1 = n
    · simp [h]
    · have : ¬ n = p.1 := fun e => h e.symm
      simp only [h, this, decide_false, Bool.false_or, Bool.false_eq_true, if_false]
theorem mset_mapOf {n : ByteArray} {v : ByteArray} : ∀ {l : List Pr}, l.any (fun q => decide (q.1 = n)) = false → mset (mapOf l) (.string n) (.v (.bool true)) = mapOf (l ++ [(n, v)])
  | [], _ => rfl
  | p :: l, h => by
    simp only [List.any_cons, Bool.or_eq_false_iff, decide_eq_false_iff_not] at h
    have ih := mset_mapOf (v := v) h.2
    have : ¬ n = p.1 := fun e => h.1 e.symm
    simp only [mapOf] at ih
    simp only [mapOf, List.map_cons, List.cons_append, mset, keyEq, this, decide_false, Bool.false_eq_true, if_false, ih]

theorem twice_take {l : List Pr} {k : Nat} (hk : k < l.length) (h : (l.take k).any (fun q => decide (q.1 = (pr l k).1)) = true) : twice l = true := by
  induction l generalizing k with
  | nil => simp at hk
  | cons p l ih =>
    cases k with
    | zero => simp at h
    | succ k =>
      have hp : pr (p :: l) (k + 1) = pr l k := rfl
      rw [hp] at h
      simp only [List.take_succ_cons, List.any_cons, Bool.or_eq_true, decide_eq_true_eq] at h
      simp only [twice, Bool.or_eq_true, List.any_eq_true, decide_eq_true_eq]
      simp only [List.length_cons] at hk
      rcases h with h | h
      · left; exact ⟨pr l k, List.mem_of_getElem? (pr_get (by omega)), h.symm⟩
      · right; exact ih (by omega) h
theorem twice_none {l : List Pr} (h : ∀ k, k < l.length → (l.take k).any (fun q => decide (q.1 = (pr l k).1)) = false) : twice l = false := by
  induction l with
  | nil => rfl
  | cons p l ih =>
    simp only [twice, Bool.or_eq_false_iff]
    constructor
    · rw [List.any_eq_false]
      intro q hq
      obtain ⟨j, hj, rfl⟩ := List.mem_iff_getElem.1 hq
      have := h (j + 1) (by simp; omega)
      simp only [List.take_succ_cons, List.any_cons, Bool.or_eq_false_iff] at this
      have e : pr (p :: l) (j + 1) = l[j] := by
        have := pr_get (l := p :: l) (k := j + 1) (by simp; omega)
        simp only [List.getElem?_cons_succ, List.getElem?_eq_getElem hj] at this
        exact (Option.some.inj this).symm
      rw [e] at this
      simp only [decide_eq_true_eq, decide_eq_false_iff_not] at this ⊢
      exact fun e => this.1 e.symm
    · refine ih fun k hk => ?_
      have := h (k + 1) (by simp; omega)
      simp only [List.take_succ_cons, List.any_cons, Bool.or_eq_false_iff] at this
      exact this.2

end Go.Proofs.Ytickejlolpoboaa.AM
