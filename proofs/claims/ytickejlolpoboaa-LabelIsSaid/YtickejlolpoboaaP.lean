/- A part of the proof: Lb, Yt, La, Lm, Lw, Le, Lg, Lc. -/
import Derived.Test.YtickejlolpoboaaTy
import Derived.Test.YtickejlolpoboaaA2
import Derived.Test.YtickejlolpoboaaX
import Derived.Test.YtickejlolpoboaaMd
set_option linter.all false
/- Labels: what is computed, in plain words. -/
namespace Go.Proofs.Ytickejlolpoboaa.AM
open Go

theorem ltS_irrefl (a : Str) : ltS a a = false := bl_irrefl _
theorem ltS_trans {a b c : Str} (h : ltS a b = true) (k : ltS b c = true) : ltS a c = true := bl_trans h k
theorem ltS_total {a b : Str} (h : ltS a b = false) (k : ltS b a = false) : a = b := bl_total h k
theorem ltS_asymm {a b : Str} (h : ltS a b = true) : ltS b a = false := by
  cases hb : ltS b a
  · rfl
  · have := ltS_trans h hb; rw [ltS_irrefl] at this; cases this
theorem ltS_ntrans {a b c : Str} (h : ltS a b = false) (k : ltS b c = false) : ltS a c = false := by
  cases hac : ltS a c
  · rfl
  · cases hba : ltS b a
    · have := ltS_total h hba; subst this; rw [hac] at k; cases k
    · have := ltS_trans hba hac; rw [this] at k; cases k
def pr (l : List GPair) (k : Nat) : GPair := l.getD k default
theorem pr_get {l : List GPair} {k : Nat} (h : k < l.length) : l[k]? = some (pr l k) := by
  rw [pr, List.getD_eq_getElem?_getD, List.getElem?_eq_getElem h]; rfl
def letterI (c : Int) : Bool := (decide (97 ≤ c) && decide (c ≤ 122)) || (decide (65 ≤ c) && decide (c ≤ 90)) || decide (c = 95)
def digitI (c : Int) : Bool := decide (48 ≤ c) && decide (c ≤ 57)
def okAt (s : Str) (i : Nat) : Bool := letterI (s.getD i 0).toNat || (digitI (s.getD i 0).toNat && decide (i ≠ 0))
def nameB (s : Str) : Bool := decide (1 ≤ s.length) && decide (s.length ≤ 64) && (List.range s.length).all (okAt s)

theorem nameB_bad {s : Str} {k : Nat} (hk : k < s.length) (h : okAt s k = false) : nameB s = false := by
  simp only [nameB, Bool.and_eq_false_iff, List.all_eq_false, List.mem_range]
  exact .inr ⟨k, hk, by simp [h]⟩
theorem nameB_good {s : Str} (h1 : 1 ≤ s.length) (h2 : s.length ≤ 64) (h : ∀ i, i < s.length → okAt s i = true) : nameB s = true := by
  simp only [nameB, h1, h2, decide_true, Bool.true_and, List.all_eq_true, List.mem_range]
  exact h
theorem nameB_len {s : Str} (h : s.length < 1 ∨ 64 < s.length) : nameB s = false := by
  simp only [nameB, Bool.and_eq_false_iff, decide_eq_false_iff_not]
  omega
theorem okAt_def {s : Str} {k : Nat} : (okAt s k = true) ↔ ((((97 ≤ ((s.getD k 0).toNat : Int) ∧ ((s.getD k 0).toNat : Int) ≤ 122) ∨ (65 ≤ ((s.getD k 0).toNat : Int) ∧ ((s.getD k 0).toNat : Int) ≤ 90)) ∨ ((s.getD k 0).toNat : Int) = 95) ∨ ((48 ≤ ((s.getD k 0).toNat : Int) ∧ ((s.getD k 0).toNat : Int) ≤ 57) ∧ ¬ (k = 0))) := by
  simp only [okAt, letterI, digitI, Bool.or_eq_true, Bool.and_eq_true, decide_eq_true_eq, ne_eq]

def saneAt (l : List GPair) (i : Nat) : Bool := nameB (pr l i).1 && decide ((pr l i).2.length ≤ 64) && (decide (i = 0) || ltS (pr l (i - 1)).1 (pr l i).1)
def saneB (l : List GPair) : Bool := decide (l.length ≤ 16) && (List.range l.length).all (saneAt l)
theorem saneB_bad {l : List GPair} {k : Nat} (hk : k < l.length) (h : saneAt l k = false) : saneB l = false := by
  simp only [saneB, Bool.and_eq_false_iff, List.all_eq_false, List.mem_range]
  exact .inr ⟨k, hk, by simp [h]⟩
theorem saneB_good {l : List GPair} (h1 : l.length ≤ 16) (h : ∀ i, i < l.length → saneAt l i = true) : saneB l = true := by
  simp only [saneB, h1, decide_true, Bool.true_and, List.all_eq_true, List.mem_range]
  exact h
theorem saneB_len {l : List GPair} (h : 16 < l.length) : saneB l = false := by
  simp only [saneB, Bool.and_eq_false_iff, decide_eq_false_iff_not]; left; omega

def countsL (l : List GPair) : List GPair := if saneB l then l else []
def getFrom (n : Str) : List GPair → Str × Bool
  | [] => ([], false)
  | p :: l => if p.1 = n then (p.2, true) else getFrom n l
def getL (l : List GPair) (n : Str) : Str × Bool := getFrom n (countsL l)
def withoutL (l : List GPair) (n : Str) : List GPair := (countsL l).filter fun p => !decide (p.1 = n)

theorem getFrom_take {n : Str} {l : List GPair} : ∀ {k : Nat}, k ≤ l.length → (∀ i, i < k → (pr l i).1 ≠ n) → getFrom n l = getFrom n (l.drop k)
  | 0, _, _ => by simp
  | k + 1, hk, h => by
    rw [getFrom_take (k := k) (by omega) (fun i hi => h i (by omega))]
    have hk' : k < l.length := by omega
    have hp := pr_get hk'
    have : l.drop k = pr l k :: l.drop (k + 1) := by
      rw [List.drop_eq_getElem_cons hk']
      congr 1
      rw [List.getElem?_eq_getElem hk'] at hp
      exact Option.some.inj hp
    rw [this, getFrom, if_neg (h k (by omega))]
theorem drop_pr {l : List GPair} {k : Nat} (hk : k < l.length) : l.drop k = pr l k :: l.drop (k + 1) := by
  have hp := pr_get hk
  rw [List.drop_eq_getElem_cons hk]
  congr 1
  rw [List.getElem?_eq_getElem hk] at hp
  exact Option.some.inj hp
theorem take_pr {l : List GPair} {k : Nat} (hk : k < l.length) : l.take (k + 1) = l.take k ++ [pr l k] := by
  have hp := pr_get hk
  rw [List.take_add_one, hp]; rfl

theorem countsL_len (l : List GPair) : (countsL l).length ≤ 16 := by
  unfold countsL
  split
  · rename_i h
    simp only [saneB, Bool.and_eq_true, decide_eq_true_eq] at h
    exact h.1
  · simp

def cmpS (a b : Str) : Int := if ltS a b then -1 else if ltS b a then 1 else 0
theorem cmpS_neg {a b : Str} : cmpS a b < 0 ↔ ltS a b = true := by
  unfold cmpS
  split
  · simp [*]
  · split <;> simp [*]

def tooLong (p : GPair) : Bool := decide (64 < p.2.length)
def twice : List GPair → Bool
  | [] => false
  | p :: l => l.any (fun q => decide (q.1 = p.1)) || twice l
def insP (p : GPair) : List GPair → List GPair
  | [] => [p]
  | q :: l => if ltS p.1 q.1 then p :: q :: l else q :: insP p l
def sortP : List GPair → List GPair
  | [] => []
  | p :: l => insP p (sortP l)
def wrongE (l : List GPair) : Int :=
  if 16 < l.length then 4 else if l.any tooLong then 4 else if l.all (fun p => nameB p.1) then (if twice l then 6 else 0) else 7
def makeL (l : List GPair) : List GPair × Int := if wrongE l = 0 then (sortP l, 0) else ([], wrongE l)

theorem insP_perm (p : GPair) : ∀ l, (insP p l).Perm (p :: l)
  | [] => .refl _
  | q :: l => by
    unfold insP
    split
    · exact .refl _
    · exact ((insP_perm p l).cons q).trans (.swap p q l)
theorem sortP_perm : ∀ l, (sortP l).Perm l
  | [] => .refl _
  | p :: l => (insP_perm p _).trans ((sortP_perm l).cons p)

def Asc (l : List GPair) : Prop := l.Pairwise (fun p q => ltS q.1 p.1 = false)
theorem insP_asc (p : GPair) : ∀ {l : List GPair}, Asc l → Asc (insP p l)
  | [], _ => by simp [insP, Asc]
  | q :: l, h => by
    obtain ⟨h1, h2⟩ := List.pairwise_cons.1 h
    unfold insP
    split
    · rename_i hl
      refine List.pairwise_cons.2 ⟨?_, h⟩
      intro r hr
      rcases List.mem_cons.1 hr with rfl | hr
      · exact ltS_asymm hl
      · have := h1 r hr
        cases hc : ltS r.1 p.1
        · rfl
        · have := ltS_trans hc hl; rw [h1 r hr] at this; cases this
    · rename_i hl
      refine List.pairwise_cons.2 ⟨?_, insP_asc p h2⟩
      intro r hr
      rcases List.mem_cons.1 ((insP_perm p l).mem_iff.1 hr) with rfl | hr
      · simpa using hl
      · exact h1 r hr
theorem sortP_asc : ∀ l, Asc (sortP l)
  | [] => .nil
  | p :: l => insP_asc p (sortP_asc l)

theorem twice_nodup : ∀ {l : List GPair}, twice l = false → (l.map (·.1)).Nodup
  | [], _ => .nil
  | p :: l, h => by
    simp only [twice, Bool.or_eq_false_iff, List.any_eq_false, decide_eq_true_eq] at h
    simp only [List.map_cons, List.nodup_cons, List.mem_map, not_exists, not_and]
    exact ⟨fun q hq => h.1 q hq, twice_nodup h.2⟩

/-- Sorted, with no name twice: only one way. -/
theorem asc_unique : ∀ {l m : List GPair}, Asc l → Asc m → l.Perm m → (l.map (·.1)).Nodup → l = m
  | [], m, _, _, h, _ => (List.nil_perm.1 h).symm
  | p :: l, [], _, _, h, _ => absurd h.length_eq (by simp)
  | p :: l, q :: m, h1, h2, h3, h4 => by
    obtain ⟨a1, a2⟩ := List.pairwise_cons.1 h1
    obtain ⟨b1, b2⟩ := List.pairwise_cons.1 h2
    have hpq : p = q := by
      have hp : p ∈ q :: m := h3.mem_iff.1 List.mem_cons_self
      have hq : q ∈ p :: l := h3.mem_iff.2 List.mem_cons_self
      rcases List.mem_cons.1 hp with h | hp
      · exact h
      rcases List.mem_cons.1 hq with h | hq
      · exact h.symm
      have e := ltS_total (a1 q hq) (b1 p hp)
      have hn := (List.nodup_cons.1 h4).1
      exact (hn (List.mem_map.2 ⟨q, hq, e⟩)).elim
    subst hpq
    rw [asc_unique a2 b2 (h3.cons_inv) (List.nodup_cons.1 h4).2]

theorem sortP_eq {l m : List GPair} (h : twice l = false) (hp : m.Perm l) (ha : Asc m) : m = sortP l :=
  asc_unique ha (sortP_asc l) (hp.trans (sortP_perm l).symm) ((hp.map (·.1)).nodup_iff.2 (twice_nodup h))

theorem twice_take {l : List GPair} {k : Nat} (hk : k < l.length) (h : (l.take k).any (fun q => decide (q.1 = (pr l k).1)) = true) : twice l = true := by
  induction l generalizing k with
  | nil => simp at hk
  | cons p l ih =>
    cases k with
    | zero => simp at h
    | succ k =>
      have hp : pr (p :: l) (k + 1) = pr l k := rfl
      rw [hp] at h
      simp only [List.take_succ_cons, List.any_cons, Bool.or_eq_true, decide_eq_true_eq] at h
      simp only [twice, Bool.or_eq_true, List.any_eq_true, decide_eq_true_eq]
      simp only [List.length_cons] at hk
      rcases h with h | h
      · left; exact ⟨pr l k, List.mem_of_getElem? (pr_get (by omega)), h.symm⟩
      · right; exact ih (by omega) h
theorem twice_none {l : List GPair} (h : ∀ k, k < l.length → (l.take k).any (fun q => decide (q.1 = (pr l k).1)) = false) : twice l = false := by
  induction l with
  | nil => rfl
  | cons p l ih =>
    simp only [twice, Bool.or_eq_false_iff]
    constructor
    · rw [List.any_eq_false]
      intro q hq
      obtain ⟨j, hj, rfl⟩ := List.mem_iff_getElem.1 hq
      have := h (j + 1) (by simp; omega)
      simp only [List.take_succ_cons, List.any_cons, Bool.or_eq_false_iff] at this
      have e : pr (p :: l) (j + 1) = l[j] := by
        have := pr_get (l := p :: l) (k := j + 1) (by simp; omega)
        simp only [List.getElem?_cons_succ, List.getElem?_eq_getElem hj] at this
        exact (Option.some.inj this).symm
      rw [e] at this
      simp only [decide_eq_true_eq, decide_eq_false_iff_not] at this ⊢
      exact fun e => this.1 e.symm
    · refine ih fun k hk => ?_
      have := h (k + 1) (by simp; omega)
      simp only [List.take_succ_cons, List.any_cons, Bool.or_eq_false_iff] at this
      exact this.2

theorem makeL_of {l : List GPair} {e : Int} (h : wrongE l = e) (he : e ≠ 0) : makeL l = ([], e) := by rw [makeL, h, if_neg he]
theorem makeL_ok {l : List GPair} (h : wrongE l = 0) : makeL l = (sortP l, 0) := by rw [makeL, if_pos h]
def withL (l : List GPair) (n v : Str) : List GPair × Int := makeL (withoutL l n ++ [⟨n, v⟩])
theorem withoutL_len (l : List GPair) (n : Str) : (withoutL l n).length ≤ 16 := Nat.le_trans (List.length_filter_le _ _) (countsL_len l)
def mergeL (a b : List GPair) : List GPair × Int := makeL ((countsL a).filter (fun p => !(getL (countsL b) p.1).2) ++ countsL b)
def cmpP (p q : GPair) : Int := if cmpS p.1 q.1 ≠ 0 then cmpS p.1 q.1 else cmpS p.2 q.2
def cmpLs : List GPair → List GPair → Int
  | [], [] => 0
  | [], _ :: _ => -1
  | _ :: _, [] => 1
  | p :: a, q :: b => if cmpP p q ≠ 0 then cmpP p q else cmpLs a b
theorem cmpLs_drop {a b : List GPair} : ∀ {k : Nat}, k ≤ a.length → k ≤ b.length → (∀ i, i < k → cmpP (pr a i) (pr b i) = 0) → cmpLs a b = cmpLs (a.drop k) (b.drop k)
  | 0, _, _, _ => by simp
  | k + 1, h1, h2, h => by
    rw [cmpLs_drop (k := k) (by omega) (by omega) (fun i hi => h i (by omega)), drop_pr (l := a) (by omega), drop_pr (l := b) (by omega), cmpLs, if_neg (by simp [h k (by omega)])]

def compareL (a b : List GPair) : Int := cmpLs (countsL a) (countsL b)
def sumW (l : List GPair) : Nat → Int
  | 0 => 0
  | k + 1 => IntKind.i64.wrap (IntKind.i64.wrap (sumW l k + (pr l k).1.length) + (pr l k).2.length)
def fewB (l : List GPair) : Bool := decide (l.length ≤ 40) && decide (sumW l l.length ≤ 3000)
theorem fewB_len {l : List GPair} (h : fewB l = true) : l.length ≤ 40 := by
  simp only [fewB, Bool.and_eq_true, decide_eq_true_eq] at h; exact h.1

/-- The four conditions. -/
structure Good (l : List GPair) : Prop where
  len : l.length ≤ 16
  short : ∀ p ∈ l, tooLong p = false
  name : ∀ p ∈ l, nameB p.1 = true
  once : twice l = false

theorem wrongE_zero {l : List GPair} : wrongE l = 0 ↔ Good l := by
  unfold wrongE
  constructor
  · intro h
    split at h
    · cases h
    · rename_i h1
      split at h
      · cases h
      · rename_i h2
        split at h
        · rename_i h3
          split at h
          · cases h
          · rename_i h4
            exact ⟨by omega, by simpa using h2, by simpa using h3, by simpa using h4⟩
        · cases h
  · rintro ⟨h1, h2, h3, h4⟩
    rw [if_neg (by omega), if_neg (by simpa using h2), if_pos (by simpa using h3), if_neg (by simp [h4])]

theorem twice_iff {l : List GPair} : twice l = false ↔ (l.map (·.1)).Nodup := by
  constructor
  · exact twice_nodup
  · intro h
    induction l with
    | nil => rfl
    | cons p l ih =>
      obtain ⟨h1, h2⟩ := List.nodup_cons.1 h
      simp only [twice, Bool.or_eq_false_iff, List.any_eq_false, decide_eq_true_eq]
      exact ⟨fun q hq e => h1 (List.mem_map.2 ⟨q, hq, e⟩), ih h2⟩

theorem Good.perm {l m : List GPair} (h : Good l) (hp : m.Perm l) : Good m :=
  ⟨by rw [hp.length_eq]; exact h.len, fun p hm => h.short p (hp.mem_iff.1 hm), fun p hm => h.name p (hp.mem_iff.1 hm),
    twice_iff.2 (((hp.map (·.1)).nodup_iff).2 (twice_iff.1 h.once))⟩

theorem makeL_good {l : List GPair} (h : Good l) : makeL l = (sortP l, 0) := makeL_ok (wrongE_zero.2 h)
theorem makeL_perm {l m : List GPair} (h : Good l) (hp : m.Perm l) : makeL m = (sortP l, 0) := by
  rw [makeL_good (h.perm hp)]
  rw [sortP_eq h.once ((sortP_perm m).trans hp) (sortP_asc m)]
theorem sortP_sorted {l : List GPair} (h : Good l) (ha : Asc l) : sortP l = l := (sortP_eq h.once (.refl l) ha).symm


/-- Ascending, no name twice: strictly ascending. -/
theorem saneB_iff {l : List GPair} : saneB l = true ↔ l.length ≤ 16 ∧ (∀ p ∈ l, nameB p.1 = true) ∧ (∀ p ∈ l, p.2.length ≤ 64) ∧ l.Pairwise (fun p q => ltS p.1 q.1 = true) := by
  have hpr : ∀ p ∈ l, ∃ i, i < l.length ∧ pr l i = p := by
    intro p hp
    obtain ⟨i, hi, rfl⟩ := List.mem_iff_getElem.1 hp
    have e := pr_get hi
    rw [List.getElem?_eq_getElem hi] at e
    exact ⟨i, hi, (Option.some.inj e).symm⟩
  constructor
  · intro h
    simp only [saneB, Bool.and_eq_true, decide_eq_true_eq, List.all_eq_true, List.mem_range] at h
    obtain ⟨h1, h2⟩ := h
    have h3 : ∀ i, i < l.length → nameB (pr l i).1 = true ∧ (pr l i).2.length ≤ 64 ∧ (i = 0 ∨ ltS (pr l (i - 1)).1 (pr l i).1 = true) := by
      intro i hi
      have := h2 i hi
      simp only [saneAt, Bool.and_eq_true, decide_eq_true_eq, Bool.or_eq_true] at this
      exact ⟨this.1.1, this.1.2, this.2⟩
    refine ⟨h1, ?_, ?_, ?_⟩
    · intro p hp; obtain ⟨i, hi, rfl⟩ := hpr p hp; exact (h3 i hi).1
    · intro p hp; obtain ⟨i, hi, rfl⟩ := hpr p hp; exact (h3 i hi).2.1
    · rw [List.pairwise_iff_getElem]
      have key : ∀ (d i : Nat), i + d + 1 < l.length → ltS (pr l i).1 (pr l (i + d + 1)).1 = true := by
        intro d
        induction d with
        | zero =>
          intro i hi
          rcases (h3 (i + 0 + 1) hi).2.2 with h | h
          · omega
          · simpa using h
        | succ d ih =>
          intro i hi
          have a := ih i (by omega)
          rcases (h3 (i + (d + 1) + 1) hi).2.2 with h | h
          · omega
          · exact ltS_trans a (by simpa [Nat.add_assoc] using h)
      intro i j hi hj hij
      have e1 := pr_get hi
      have e2 := pr_get hj
      rw [List.getElem?_eq_getElem hi] at e1
      rw [List.getElem?_eq_getElem hj] at e2
      rw [Option.some.inj e1, Option.some.inj e2]
      have := key (j - i - 1) i (by omega)
      rwa [show i + (j - i - 1) + 1 = j from by omega] at this
  · rintro ⟨h1, h2, h3, h4⟩
    refine saneB_good h1 fun i hi => ?_
    have hm : pr l i ∈ l := List.mem_of_getElem? (pr_get hi)
    simp only [saneAt, h2 _ hm, h3 _ hm, decide_true, Bool.true_and, Bool.or_eq_true, decide_eq_true_eq]
    rcases Nat.eq_zero_or_pos i with h | h
    · exact .inl h
    · right
      have := List.pairwise_iff_getElem.1 h4 (i - 1) i (by omega) hi (by omega)
      have e1 := pr_get (l := l) (k := i - 1) (by omega)
      have e2 := pr_get hi
      rw [List.getElem?_eq_getElem (by omega)] at e1
      rw [List.getElem?_eq_getElem hi] at e2
      rw [Option.some.inj e1, Option.some.inj e2] at this
      exact this

theorem saneB_good' {l : List GPair} (h : saneB l = true) : Good l ∧ Asc l := by
  obtain ⟨h1, h2, h3, h4⟩ := saneB_iff.1 h
  refine ⟨⟨h1, fun p hp => by have := h3 p hp; simp only [tooLong, decide_eq_false_iff_not]; omega, h2, twice_iff.2 ?_⟩, h4.imp fun h => ltS_asymm h⟩
  rw [List.Nodup, List.pairwise_map]
  exact h4.imp fun {a b} hab he => by rw [he, ltS_irrefl] at hab; cases hab

theorem sane_of_good {l : List GPair} (h : Good l) (ha : Asc l) : saneB l = true := by
  refine saneB_iff.2 ⟨h.len, h.name, fun p hp => by have := h.short p hp; simp only [tooLong, decide_eq_false_iff_not] at this; omega, ?_⟩
  have hn := twice_iff.1 h.once
  rw [List.Nodup, List.pairwise_map] at hn
  refine (ha.and hn).imp ?_
  rintro a b ⟨h1, h2⟩
  cases hc : ltS a.1 b.1
  · exact (h2 (ltS_total hc h1)).elim
  · rfl

theorem getFrom_mem {l : List GPair} (h : (l.map (·.1)).Nodup) {p : GPair} (hp : p ∈ l) : getFrom p.1 l = (p.2, true) := by
  induction l with
  | nil => cases hp
  | cons q l ih =>
    obtain ⟨h1, h2⟩ := List.nodup_cons.1 h
    unfold getFrom
    rcases List.mem_cons.1 hp with rfl | hp
    · rw [if_pos rfl]
    · rw [if_neg (fun e => h1 (List.mem_map.2 ⟨p, hp, e.symm⟩))]
      exact ih h2 hp
theorem getL_mem {l : List GPair} (hs : saneB l = true) {p : GPair} (hp : p ∈ l) : getL l p.1 = (p.2, true) := by
  rw [getL, countsL, if_pos hs]
  exact getFrom_mem (twice_iff.1 (saneB_good' hs).1.once) hp
theorem sane_sortP {l : List GPair} (h : Good l) : saneB (sortP l) = true := sane_of_good (h.perm (sortP_perm l)) (sortP_asc l)
theorem getL_sortP {l : List GPair} (h : Good l) {p : GPair} (hp : p ∈ l) : getL (sortP l) p.1 = (p.2, true) := getL_mem (sane_sortP h) ((sortP_perm l).mem_iff.2 hp)
theorem makeL_sortP {l : List GPair} (h : Good l) : makeL (sortP l) = (sortP l, 0) := makeL_perm h (sortP_perm l)
theorem makeL_reverse {l : List GPair} (h : Good l) : makeL l.reverse = (sortP l, 0) := makeL_perm h (List.reverse_perm l)
theorem makeL_bad {l : List GPair} (h : ¬ Good l) : (makeL l).1 = [] ∧ (makeL l).2 ≠ 0 ∧ saneB l = false := by
  have hw : wrongE l ≠ 0 := fun e => h (wrongE_zero.1 e)
  rw [makeL_of rfl hw]
  refine ⟨rfl, hw, ?_⟩
  cases hs : saneB l
  · rfl
  · exact (h (saneB_good' hs).1).elim


structure Ord3 {α : Type} (f : α → α → Int) : Prop where
  rng : ∀ a b, f a b = -1 ∨ f a b = 0 ∨ f a b = 1
  anti : ∀ a b, f b a = - f a b
  zero : ∀ a b, f a b = 0 ↔ a = b
  trans : ∀ a b c, f a b ≤ 0 → f b c ≤ 0 → f a c ≤ 0

theorem cmpS_ord : Ord3 cmpS := by
  refine ⟨fun a b => ?_, fun a b => ?_, fun a b => ?_, fun a b c => ?_⟩
  · unfold cmpS; split
    · exact .inl rfl
    · split
      · exact .inr (.inr rfl)
      · exact .inr (.inl rfl)
  · unfold cmpS
    cases h : ltS a b
    · cases h2 : ltS b a <;> simp
    · rw [ltS_asymm h]; simp
  · unfold cmpS
    cases h : ltS a b
    · cases h2 : ltS b a
      · simp [ltS_total h h2]
      · simp only [Bool.false_eq_true, if_false, if_true]
        constructor
        · intro h; cases h
        · rintro rfl; rw [ltS_irrefl] at h2; cases h2
    · simp only [if_true]
      constructor
      · intro h; cases h
      · rintro rfl; rw [ltS_irrefl] at h; cases h
  · have key : ∀ a b, cmpS a b ≤ 0 ↔ ltS b a = false := by
      intro a b
      unfold cmpS
      cases h : ltS a b
      · cases h2 : ltS b a <;> simp
      · simp [ltS_asymm h]
    rw [key, key, key]
    intro h1 h2
    exact ltS_ntrans h2 h1

theorem cmpP_ord : Ord3 cmpP := by
  refine ⟨fun a b => ?_, fun a b => ?_, fun a b => ?_, fun a b c => ?_⟩
  · unfold cmpP; split
    · exact cmpS_ord.rng _ _
    · exact cmpS_ord.rng _ _
  · unfold cmpP
    rw [cmpS_ord.anti a.1 b.1, cmpS_ord.anti a.2 b.2]
    by_cases h : cmpS a.1 b.1 = 0
    · simp [h]
    · rw [if_pos (by omega), if_pos h]
  · unfold cmpP
    by_cases h : cmpS a.1 b.1 = 0
    · rw [if_neg (by simp [h]), cmpS_ord.zero]
      rw [cmpS_ord.zero] at h
      exact ⟨fun e => by cases a; cases b; simp only at h e; subst h; subst e; rfl, fun e => by rw [e]⟩
    · rw [if_pos h]
      refine ⟨fun e => absurd e h, fun e => ?_⟩
      subst e
      exact absurd ((cmpS_ord.zero _ _).2 rfl) h
  · unfold cmpP
    intro h1 h2
    have t1 := cmpS_ord.trans a.1 b.1 c.1
    have t2 := cmpS_ord.trans a.2 b.2 c.2
    have u1 := cmpS_ord.trans c.1 b.1 a.1
    have n1 := cmpS_ord.anti a.1 b.1
    have n2 := cmpS_ord.anti b.1 c.1
    have n3 := cmpS_ord.anti a.1 c.1
    split at h1
    · split at h2
      · rename_i g1 g2
        have h3 := t1 h1 h2
        rw [if_pos]
        · exact h3
        · intro h0
          have e := (cmpS_ord.zero a.1 c.1).1 h0
          rw [e] at h1 g1 n1
          omega
      · rename_i g1 g2
        have e : b.1 = c.1 := (cmpS_ord.zero _ _).1 (by omega)
        rw [← e, if_pos g1]; exact h1
    · rename_i g1
      have e : a.1 = b.1 := (cmpS_ord.zero _ _).1 (by omega)
      split at h2
      · rename_i g2
        rw [e, if_pos g2]; exact h2
      · rename_i g2
        rw [e, if_neg g2]
        exact t2 h1 h2

theorem cmpLs_ord : Ord3 cmpLs := by
  refine ⟨fun a b => ?_, fun a b => ?_, fun a b => ?_, fun a b c => ?_⟩
  · induction a generalizing b with
    | nil => cases b <;> simp [cmpLs]
    | cons p a ih =>
      cases b with
      | nil => simp [cmpLs]
      | cons q b =>
        simp only [cmpLs]
        split
        · exact cmpP_ord.rng _ _
        · exact ih b
  · induction a generalizing b with
    | nil => cases b <;> simp [cmpLs]
    | cons p a ih =>
      cases b with
      | nil => simp [cmpLs]
      | cons q b =>
        simp only [cmpLs]
        rw [cmpP_ord.anti p q, ih b]
        by_cases h : cmpP p q = 0
        · simp [h]
        · rw [if_pos (by omega), if_pos h]
  · induction a generalizing b with
    | nil => cases b <;> simp [cmpLs]
    | cons p a ih =>
      cases b with
      | nil => simp [cmpLs]
      | cons q b =>
        simp only [cmpLs]
        by_cases h : cmpP p q = 0
        · rw [if_neg (by simp [h]), ih b]
          rw [cmpP_ord.zero] at h
          subst h; simp
        · rw [if_pos h]
          refine ⟨fun e => absurd e h, fun e => ?_⟩
          simp only [List.cons.injEq] at e
          exact absurd ((cmpP_ord.zero _ _).2 e.1) h
  · induction a generalizing b c with
    | nil => cases b <;> cases c <;> simp [cmpLs]
    | cons p a ih =>
      cases b with
      | nil => simp [cmpLs]
      | cons q b =>
        cases c with
        | nil => simp [cmpLs]
        | cons r c =>
          simp only [cmpLs]
          intro h1 h2
          have t := cmpP_ord.trans p q r
          have n1 := cmpP_ord.anti p q
          have n2 := cmpP_ord.anti q r
          split at h1
          · rename_i g1
            split at h2
            · rename_i g2
              rw [if_pos]
              · exact t h1 h2
              · intro h0
                have e := (cmpP_ord.zero p r).1 h0
                subst e
                omega
            · rename_i g2
              have e : q = r := (cmpP_ord.zero _ _).1 (by omega)
              subst e
              rw [if_pos g1]; exact h1
          · rename_i g1
            have e : p = q := (cmpP_ord.zero _ _).1 (by omega)
            subst e
            split at h2
            · rename_i g2
              rw [if_pos g2]; exact h2
            · rename_i g2
              rw [if_neg g2]
              exact ih b c h1 h2
end Go.Proofs.Ytickejlolpoboaa.AM

/- Tools for models. -/
namespace Go.Proofs.Ytickejlolpoboaa.AM
open Go

section
variable {α β σ : Type}
@[simp] theorem letE_eq (enc : α → AV) (e : α) (m : α → Option β) : letE enc e m = m e := rfl
@[simp] theorem letO_eq (enc : α → AV) (ob : α → List Obj) (e : α) (m : α → Option β) : letO enc ob e m = m e := rfl
@[simp] theorem retM_eq (x : β) : retM x = some x := rfl
@[simp] theorem tokM_eq (a b c : Nat) (m : Option β) : tokM a b c m = m := rfl
@[simp] theorem pubM_eq (a b : Nat) (m : Option β) : pubM a b m = m := rfl
@[simp] theorem shM_eq (a : Nat) (m : Option β) : shM a m = m := rfl
@[simp] theorem swapM_eq (a b : Nat) (m : Option β) : swapM a b m = m := rfl
@[simp] theorem unboxM_eq (a : Nat) (m : Option β) : unboxM a m = m := rfl
@[simp] theorem pubbM_eq (a : Nat) (m : Option β) : pubbM a m = m := rfl
@[simp] theorem drawM_eq (m : Option β) : drawM m = m := rfl
@[simp] theorem iteM_true (x y : Option β) : iteM true x y = x := rfl
@[simp] theorem iteM_false (x y : Option β) : iteM false x y = y := rfl
theorem iteM_if (b : Bool) (x y : Option β) : iteM b x y = if b = true then x else y := rfl
@[simp] theorem iteM_dec (p : Prop) [Decidable p] (x y : Option β) : iteM (decide p) x y = if p then x else y := by
  unfold iteM; by_cases h : p <;> simp [h]
@[simp] theorem iteM_not (b : Bool) (x y : Option β) : iteM (!b) x y = iteM b y x := by cases b <;> rfl
@[simp] theorem callM_some (enc : α → AV) (ob : α → List Obj) (a : α) (m : α → Option β) : callM enc ob (some a) m = m a := rfl
@[simp] theorem exitM_some (r : β) : exitM (σ := σ) (some r) = some (.inr r) := rfl
@[simp] theorem nextM_eq (x : σ) : nextM (β := β) x = some (.inl x) := rfl
@[simp] theorem joinM_eq (ph : σ → List (Nat × AV)) (ob : σ → List Obj) (rest : σ → Option β) (m : Option (σ ⊕ β)) : joinM ph ob rest m = m.bind (Sum.elim rest some) := rfl
theorem gdM_pos {p : Prop} [Decidable p] (h : p) (m : Option β) : gdM p m = m := if_pos h
theorem idxM_get {l : List α} {i : Nat} {x : α} (h : l[i]? = some x) (m : α → Option β) : idxM l (i : Int) m = m x := by
  unfold idxM; rw [if_pos (by omega), Int.toNat_natCast, h]; rfl
theorem idxM_of {l : List α} {i : Int} {x : α} (h0 : 0 ≤ i) (h : l[i.toNat]? = some x) (m : α → Option β) : idxM l i m = m x := by
  unfold idxM; rw [if_pos h0, h]; rfl
theorem wI_of {x : Int} (h : -9223372036854775808 ≤ x ∧ x ≤ 9223372036854775807) : wI x = x := IntWalk.i64_in x h
theorem loopM_rec {ph : σ → List (Nat × AV)} {ob : σ → List Obj} {step : σ → Option (σ ⊕ β)} (I : σ → Prop) (μ : σ → Nat) (F : σ → β)
    (h : ∀ s, I s → step s = some (.inr (F s)) ∨ ∃ s', step s = some (.inl s') ∧ I s' ∧ μ s' < μ s ∧ F s' = F s) {s : σ} (hs : I s) : loopM ph ob step s = some (F s) := iter_rec I μ F h s hs
/-- A loop over the numbers below n. -/
theorem loopM_nat {ph : Int → List (Nat × AV)} {ob : Int → List Obj} {step : Int → Option (Int ⊕ β)} (n : Nat) (F : Nat → β)
    (h1 : ∀ i, i < n → step (i : Int) = some (.inr (F i)) ∨ (step (i : Int) = some (.inl ((i + 1 : Nat) : Int)) ∧ F (i + 1) = F i)) (h2 : step (n : Int) = some (.inr (F n))) : loopM ph ob step 0 = some (F 0) := by
  have := loopM_rec (ph := ph) (ob := ob) (step := step) (fun i : Int => 0 ≤ i ∧ i ≤ n) (fun i => (n - i).toNat) (fun i => F i.toNat) (by
    rintro i ⟨h0, hn⟩
    obtain ⟨k, rfl⟩ := Int.eq_ofNat_of_zero_le h0
    rcases Nat.lt_or_ge k n with hk | hk
    · rcases h1 k hk with h | ⟨h, he⟩
      · exact .inl (by simpa using h)
      · exact .inr ⟨_, h, ⟨by omega, by omega⟩, by omega, by simp only [Int.toNat_natCast]; exact he⟩
    · have : k = n := by omega
      subst this
      exact .inl (by simpa using h2)) (s := 0) ⟨by omega, by omega⟩
  simpa using this
/-- .. with what is gathered. -/
theorem loopM_natA {A : Type} {ph : Int × A → List (Nat × AV)} {ob : Int × A → List Obj} {step : Int × A → Option (Int × A ⊕ β)} (n : Nat) (J : Nat → A → Prop) (F : Nat → A → β)
    (h1 : ∀ i a, i < n → J i a → step ((i : Int), a) = some (.inr (F i a)) ∨ ∃ a', step ((i : Int), a) = some (.inl (((i + 1 : Nat) : Int), a')) ∧ J (i + 1) a' ∧ F (i + 1) a' = F i a) (h2 : ∀ a, J n a → step ((n : Int), a) = some (.inr (F n a))) {a : A} (h0 : J 0 a) : loopM ph ob step (0, a) = some (F 0 a) := by
  have := loopM_rec (ph := ph) (ob := ob) (step := step) (fun s : Int × A => (0 ≤ s.1 ∧ s.1 ≤ n) ∧ J s.1.toNat s.2) (fun s => (n - s.1).toNat) (fun s => F s.1.toNat s.2) (by
    rintro ⟨i, a⟩ ⟨⟨h0, hn⟩, hj⟩
    simp only at h0 hn hj
    obtain ⟨k, rfl⟩ := Int.eq_ofNat_of_zero_le h0
    simp only [Int.toNat_natCast] at hj ⊢
    rcases Nat.lt_or_ge k n with hk | hk
    · rcases h1 k a hk hj with h | ⟨a', h, hj', he⟩
      · exact .inl h
      · exact .inr ⟨_, h, ⟨⟨by simp only; omega, by simp only; omega⟩, by simpa using hj'⟩, by simp only; omega, by simpa using he⟩
    · have : k = n := by omega
      subst this
      exact .inl (h2 a hj)) (s := (0, a)) ⟨⟨by simp, by simp⟩, by simpa using h0⟩
  simpa using this
/-- .. what is gathered first. -/
theorem loopM_natB {A : Type} {ph : A × Int → List (Nat × AV)} {ob : A × Int → List Obj} {step : A × Int → Option (A × Int ⊕ β)} (n : Nat) (J : Nat → A → Prop) (F : Nat → A → β)
    (h1 : ∀ i a, i < n → J i a → step (a, (i : Int)) = some (.inr (F i a)) ∨ ∃ a', step (a, (i : Int)) = some (.inl (a', ((i + 1 : Nat) : Int))) ∧ J (i + 1) a' ∧ F (i + 1) a' = F i a) (h2 : ∀ a, J n a → step (a, (n : Int)) = some (.inr (F n a))) {a : A} (h0 : J 0 a) : loopM ph ob step (a, 0) = some (F 0 a) := by
  have := loopM_rec (ph := ph) (ob := ob) (step := step) (fun s : A × Int => (0 ≤ s.2 ∧ s.2 ≤ n) ∧ J s.2.toNat s.1) (fun s => (n - s.2).toNat) (fun s => F s.2.toNat s.1) (by
    rintro ⟨a, i⟩ ⟨⟨h0, hn⟩, hj⟩
    simp only at h0 hn hj
    obtain ⟨k, rfl⟩ := Int.eq_ofNat_of_zero_le h0
    simp only [Int.toNat_natCast] at hj ⊢
    rcases Nat.lt_or_ge k n with hk | hk
    · rcases h1 k a hk hj with h | ⟨a', h, hj', he⟩
      · exact .inl h
      · exact .inr ⟨_, h, ⟨⟨by simp only; omega, by simp only; omega⟩, by simpa using hj'⟩, by simp only; omega, by simpa using he⟩
    · have : k = n := by omega
      subst this
      exact .inl (h2 a hj)) (s := (a, 0)) ⟨⟨by simp, by simp⟩, by simpa using h0⟩
  simpa using this
end
end Go.Proofs.Ytickejlolpoboaa.AM

/- The models of package label, told in plain words: names, what is sane, got, taken away. -/
namespace Go.Proofs.Ytickejlolpoboaa.AM
open Go

theorem str_get {s : Str} {k : Nat} (h : k < s.length) : s[k]? = some (s.getD k 0) := by
  rw [List.getD_eq_getElem?_getD, List.getElem?_eq_getElem h]; rfl
theorem bif_or (a b : Bool) : (bif a then true else b) = (a || b) := by cases a <;> rfl
theorem bif_and (a b : Bool) : (bif a then b else false) = (a && b) := by cases a <;> rfl

theorem label_Name_eq (s : Str) : label_Name s = some (nameB s) := by
  unfold label_Name
  simp only [letE_eq, bif_or, bif_and]
  by_cases h : s.length < 1 ∨ 64 < s.length
  · rw [show (decide ((s.length : Int) < 1) || decide ((64 : Int) < s.length)) = true from by simp; omega]
    simp [nameB_len h]
  · rw [show (decide ((s.length : Int) < 1) || decide ((64 : Int) < s.length)) = false from by simp; omega]
    simp only [iteM_false]
    refine (loopM_nat s.length (fun i => (List.range s.length).all fun j => decide (j < i) || okAt s j) ?_ ?_).trans ?_
    rotate_right
    · congr 1
      rw [nameB, decide_eq_true (show 1 ≤ s.length by omega), decide_eq_true (show s.length ≤ 64 by omega)]
      simp
    · intro i hi
      simp only [iteM_dec, idxM_get (str_get hi)]
      rw [if_pos (by omega)]
      have e : ((!((decide ((97 : Int) ≤ ((s.getD i 0).toNat : Int)) && decide (((s.getD i 0).toNat : Int) ≤ 122) || (decide ((65 : Int) ≤ ((s.getD i 0).toNat : Int)) && decide (((s.getD i 0).toNat : Int) ≤ 90))) || decide (((s.getD i 0).toNat : Int) = 95))) && ((!(decide ((48 : Int) ≤ ((s.getD i 0).toNat : Int)) && decide (((s.getD i 0).toNat : Int) ≤ 57))) || decide ((i : Int) = 0))) = !okAt s i := by
        simp only [okAt, letterI, digitI]
        rw [show decide ((i : Int) = 0) = !decide (i ≠ 0) from by by_cases h : i = 0 <;> simp [h]]
        simp [Bool.not_or, Bool.not_and]
      rw [e, iteM_not]
      cases ho : okAt s i
      · left
        simp only [iteM_false, retM_eq, exitM_some, Option.some.injEq, Sum.inr.injEq]
        symm
        rw [List.all_eq_false]
        exact ⟨i, List.mem_range.2 hi, by simp [ho]⟩
      · right
        rw [wI_of (by omega)]
        refine ⟨by simp, ?_⟩
        congr 1
        funext j
        by_cases hj : j = i
        · subst hj; simp [ho]
        · rw [show decide (j < i + 1) = decide (j < i) from by rw [decide_eq_decide]; omega]
    · simp only [iteM_dec]
      rw [if_neg (by omega)]
      simp only [retM_eq, exitM_some, Option.some.injEq, Sum.inr.injEq]
      symm
      rw [List.all_eq_true]
      intro j hj
      rw [List.mem_range] at hj
      simp [hj]

theorem all_lt {n : Nat} {f : Nat → Bool} {i : Nat} (h : f i = true) : ((List.range n).all fun j => decide (j < i + 1) || f j) = ((List.range n).all fun j => decide (j < i) || f j) := by
  congr 1
  funext j
  by_cases hj : j = i
  · subst hj; simp [h]
  · rw [show decide (j < i + 1) = decide (j < i) from by rw [decide_eq_decide]; omega]
theorem all_bad {n : Nat} {f : Nat → Bool} {i : Nat} (hi : i < n) (h : f i = false) : ((List.range n).all fun j => decide (j < i) || f j) = false := by
  rw [List.all_eq_false]; exact ⟨i, List.mem_range.2 hi, by simp [h]⟩
theorem all_end {n : Nat} {f : Nat → Bool} : ((List.range n).all fun j => decide (j < n) || f j) = true := by
  rw [List.all_eq_true]; intro j hj; rw [List.mem_range] at hj; simp [hj]
theorem all_zero {n : Nat} {f : Nat → Bool} : ((List.range n).all fun j => decide (j < 0) || f j) = (List.range n).all f := by simp

theorem label_Sane_eq (l : List GPair) : label_Sane l = some (saneB l) := by
  unfold label_Sane
  simp only [letE_eq, iteM_dec]
  by_cases h : 16 < l.length
  · rw [if_pos (by omega), saneB_len h]; rfl
  · rw [if_neg (by omega)]
    refine (loopM_nat l.length (fun i => (List.range l.length).all fun j => decide (j < i) || saneAt l j) ?_ ?_).trans ?_
    rotate_right
    · rw [all_zero, saneB, decide_eq_true (by omega)]; rfl
    · intro i hi
      simp only [iteM_dec, idxM_get (pr_get hi), label_Name_eq, callM_some, iteM_not]
      rw [if_pos (by omega)]
      cases h1 : nameB (pr l i).1
      · left; simp [all_bad hi (show saneAt l i = false by simp [saneAt, h1])]
      · simp only [iteM_true]
        by_cases h2 : 64 < (pr l i).2.length
        · left; rw [if_pos (by omega)]
          simp [all_bad hi (show saneAt l i = false by simp [saneAt, h1]; omega)]
        · rw [if_neg (by omega)]
          by_cases h3 : i = 0
          · subst h3
            right
            rw [if_neg (by omega), wI_of (by omega)]
            exact ⟨by simp, all_lt (by simp [saneAt, h1]; omega)⟩
          · rw [if_pos (by omega), wI_of (by omega), idxM_of (x := pr l (i - 1)) (by omega) (by rw [show ((i : Int) - 1).toNat = i - 1 from by omega]; exact pr_get (by omega))]
            cases h4 : ltS (pr l (i - 1)).1 (pr l i).1
            · left; simp [all_bad hi (show saneAt l i = false by simp [saneAt, h1, h3, h4]), h4]
            · right
              rw [wI_of (by omega)]
              exact ⟨by simp, all_lt (by simp [saneAt, h1, h3, h4]; omega)⟩
    · rw [if_neg (by omega)]
      simp [all_end]

theorem label_counts_eq (l : List GPair) : label_counts l = some (countsL l) := by
  unfold label_counts countsL
  rw [label_Sane_eq, callM_some]
  cases saneB l <;> rfl

theorem label_Get_eq (l : List GPair) (n : Str) : label_Get l n = some (getL l n) := by
  unfold label_Get
  rw [label_counts_eq, callM_some]
  simp only [letE_eq]
  have hl := countsL_len l
  unfold getL
  generalize countsL l = m at *
  refine (loopM_nat m.length (fun i => getFrom n (m.drop i)) ?_ ?_).trans (by simp)
  · intro i hi
    simp only [iteM_dec, idxM_get (pr_get hi)]
    rw [if_pos (by omega), drop_pr hi]
    by_cases hn : (pr m i).1 = n
    · left; rw [if_pos hn]; simp [getFrom, hn]
    · right; rw [if_neg hn, wI_of (by omega)]; exact ⟨by simp, by simp [getFrom, hn]⟩
  · simp only [iteM_dec]
    rw [if_neg (by omega)]
    simp [getFrom]

theorem label_Without_eq (l : List GPair) (n : Str) : label_Without l n = some (withoutL l n) := by
  unfold label_Without
  rw [label_counts_eq, callM_some]
  simp only [letE_eq, tokM_eq]
  have hl := countsL_len l
  unfold withoutL
  generalize countsL l = m at *
  refine (loopM_natA m.length (fun i a => a.length ≤ i) (fun i a => a ++ (m.drop i).filter fun p => !decide (p.1 = n)) ?_ ?_ (Nat.le_refl _)).trans (by simp)
  · intro i a hi ha
    right
    simp only [iteM_dec, idxM_get (pr_get hi), iteM_not, letO_eq]
    rw [if_pos (by omega), drop_pr hi]
    by_cases hn : (pr m i).1 = n
    · rw [if_pos hn, wI_of (by omega)]
      exact ⟨a, by simp, by omega, by simp [hn]⟩
    · rw [if_neg hn, gdM_pos (by simp; omega), wI_of (by omega)]
      exact ⟨a ++ [pr m i], by simp, by simp; omega, by simp [hn]⟩
  · intro a ha
    simp only [iteM_dec]
    rw [if_neg (by omega)]
    simp
end Go.Proofs.Ytickejlolpoboaa.AM

/- The models of package label: made, with, merged, compared; the same, few. -/
namespace Go.Proofs.Ytickejlolpoboaa.AM
open Go

theorem cmp_eq (a b : Str) : cmp_Compare_string a b = some (cmpS a b) := by
  unfold cmp_Compare_string cmp_isNaN_string cmpS
  simp only [letE_eq, retM_eq, decide_true, Bool.not_true, callM_some, iteM_false, iteM_if, Bool.false_eq_true, if_false]
  split
  · rfl
  · split <;> rfl
theorem label_Make_1_eq (p q : GPair) : label_Make_1 p q = some (cmpS p.1 q.1) := by
  unfold label_Make_1; rw [cmp_eq]; rfl
theorem clone_eq (l : List GPair) (h : l.length ≤ 1000) : slices_Clone_Pair_Pair l = some l := by
  unfold slices_Clone_Pair_Pair
  simp only [letO_eq, retM_eq, List.nil_append]
  rw [gdM_pos (by simp; omega)]
  unfold nilM
  rw [if_pos (by rintro rfl; rfl)]

def seenM (l : List GPair) : List (Str × Bool) := l.map fun p => (p.1, true)
theorem mlk_seen (n : Str) : ∀ l : List GPair, (mlk (seenM l) n).getD false = l.any (fun q => decide (q.1 = n))
  | [] => rfl
  | p :: l => by
    have ih := mlk_seen n l
    simp only [seenM, List.map_cons, mlk, List.any_cons] at ih ⊢
    by_cases h : n = p.1
    · simp [h]
    · have e : decide (p.Name = n) = false := by simp; exact fun e => h e.symm
      rw [if_neg h, ih, e, Bool.false_or]
theorem mst_seen {p : GPair} : ∀ {l : List GPair}, l.any (fun q => decide (q.1 = p.1)) = false → mst (seenM l) p.1 true = seenM (l ++ [p])
  | [], _ => rfl
  | q :: l, h => by
    simp only [List.any_cons, Bool.or_eq_false_iff, decide_eq_false_iff_not] at h
    have ih := mst_seen (p := p) h.2
    simp only [seenM, List.map_cons, mst, List.cons_append] at ih ⊢
    rw [if_neg (fun e => h.1 e.symm), ih]

theorem label_Make_eq (l : List GPair) : label_Make l = some (makeL l) := by
  unfold label_Make
  simp only [letE_eq, iteM_dec]
  by_cases h16 : 16 < l.length
  · rw [if_pos (by omega), makeL_of (e := 4) (by rw [wrongE, if_pos h16]) (by decide)]; rfl
  rw [if_neg (by omega)]
  -- what follows, each loop by what is known
  have fin : ∀ (i : Nat), i ≤ l.length → True := fun _ _ => trivial
  refine (loopM_nat l.length (fun i => if (l.drop i).any tooLong then ([], 4) else if l.all (fun p => nameB p.1) then (if twice l then ([], 6) else (sortP l, 0)) else ([], 7)) ?_ ?_).trans ?_
  · intro i hi
    simp only [iteM_dec, idxM_get (pr_get hi)]
    rw [if_pos (by omega), drop_pr hi]
    by_cases ht : 64 < (pr l i).2.length
    · left; rw [if_pos (by omega)]; simp [tooLong, ht]
    · right; rw [if_neg (by omega), wI_of (by omega)]
      refine ⟨by simp, ?_⟩
      have : tooLong (pr l i) = false := by simp only [tooLong, decide_eq_false_iff_not]; omega
      simp [this]
  · try simp only [iteM_dec]
    rw [if_neg (by omega)]
    simp only [List.drop_length, List.any_nil, Bool.false_eq_true, if_false]
    rw [loopM_nat l.length (fun i => if (l.drop i).all (fun p => nameB p.1) then (if twice l then ([], 6) else (sortP l, 0)) else ([], 7)) ?_ ?_]
    · rfl
    · intro i hi
      simp only [iteM_dec, idxM_get (pr_get hi), label_Name_eq, callM_some, iteM_not]
      rw [if_pos (by omega), drop_pr hi]
      cases hn : nameB (pr l i).1
      · left; simp [hn]
      · right; rw [wI_of (by omega)]
        exact ⟨by simp, by simp [hn]⟩
    · try simp only [iteM_dec]
      rw [if_neg (by omega)]
      simp only [List.drop_length, List.all_nil, if_true, letO_eq]
      rw [loopM_natB l.length (fun i m => m = seenM (l.take i) ∧ ∀ j, j < i → (l.take j).any (fun q => decide (q.1 = (pr l j).1)) = false) (fun _ _ => if twice l then ([], 6) else (sortP l, 0)) ?_ ?_ ⟨by simp [seenM], fun j hj => by omega⟩]
      · rfl
      · rintro i m hi ⟨rfl, hj⟩
        simp only [iteM_dec, idxM_get (pr_get hi), letO_eq, mlk_seen]
        rw [if_pos (by omega)]
        cases hs : (l.take i).any (fun q => decide (q.1 = (pr l i).1))
        · right
          rw [wI_of (by omega), iteM_false, mst_seen hs, ← take_pr hi]
          refine ⟨_, by simp, ⟨rfl, fun j hj' => ?_⟩, trivial⟩
          by_cases e : j = i
          · subst e; exact hs
          · exact hj j (by omega)
        · left
          rw [twice_take hi hs]
          rfl
      · rintro m ⟨rfl, hj⟩
        simp only [iteM_dec, unboxM_eq, pubbM_eq]
        rw [if_neg (by omega), clone_eq l (by omega), callM_some]
        have htw : twice l = false := twice_none hj
        rw [sortM_eq (y := (sortP l, 0)) (fun p q => cmpS p.1 q.1) ⟨fun p _ q _ => label_Make_1_eq p q, fun p _ => by rw [cmpS_neg, ltS_irrefl]; simp, fun p _ q _ r _ h1 h2 => by rw [cmpS_neg] at *; exact ltS_trans h1 h2, fun p _ q _ r _ h1 h2 => by rw [cmpS_neg] at *; rw [Bool.not_eq_true] at *; exact ltS_ntrans h1 h2, by omega⟩ ?_]
        · simp [htw]
        · intro l' hp hs
          rw [sortP_eq htw hp (hs.imp fun {a b} hab => by rw [cmpS_neg] at hab; simpa using hab)]
          rfl
  · simp only [List.drop_zero, makeL, wrongE, h16, if_false, Option.some.injEq]
    split
    · rfl
    · split
      · split <;> simp
      · simp

theorem label_With_eq (l : List GPair) (n v : Str) : label_With l n v = some (withL l n v) := by
  unfold label_With
  have h := withoutL_len l n
  rw [label_Without_eq, callM_some]
  simp only [letE_eq, letO_eq]
  rw [gdM_pos (by simp; omega), label_Make_eq, callM_some]
  rfl

theorem label_Merge_eq (a b : List GPair) : label_Merge a b = some (mergeL a b) := by
  unfold label_Merge
  rw [label_counts_eq, callM_some, label_counts_eq, callM_some]
  have hl := countsL_len a
  have hlb := countsL_len b
  simp only [letE_eq, tokM_eq]
  unfold mergeL
  have hcc : ∀ n, label_Get (countsL b) n = some (getL (countsL b) n) := fun n => label_Get_eq _ _
  generalize countsL a = m at *
  generalize countsL b = c at *
  refine (loopM_natA m.length (fun i r => r.length ≤ i) (fun i r => makeL ((r ++ (m.drop i).filter fun p => !(getL c p.1).2) ++ c)) ?_ ?_ (Nat.le_refl _)).trans (by simp)
  · intro i r hi hr
    right
    simp only [iteM_dec, idxM_get (pr_get hi), iteM_not, letO_eq, hcc, callM_some]
    rw [if_pos (by omega), drop_pr hi]
    cases hg : (getL c (pr m i).1).2
    · rw [iteM_false, gdM_pos (by simp; omega), wI_of (by omega)]
      exact ⟨r ++ [pr m i], by simp, by simp; omega, by simp [hg]⟩
    · rw [iteM_true, wI_of (by omega)]
      exact ⟨r, by simp, by omega, by simp [hg]⟩
  · intro r hr
    simp only [iteM_dec, letO_eq]
    rw [if_neg (by omega), gdM_pos (by omega), label_Make_eq, callM_some]
    simp

theorem cmp_Or_eq (a b : Int) : cmp_Or_int [a, b] = some (if a ≠ 0 then a else b) := by
  unfold cmp_Or_int
  simp only [letE_eq]
  refine (loopM_nat 2 (fun i => if i = 0 then (if a ≠ 0 then a else b) else if i = 1 then b else 0) ?_ ?_).trans (by simp)
  · intro i hi
    have h2 : i = 0 ∨ i = 1 := by omega
    rcases h2 with rfl | rfl
    · simp only [iteM_dec, iteM_not, idxM_get (show ([a, b] : List Int)[0]? = some a from rfl)]
      by_cases h : a = 0
      · right; simp [h, wI_of]
      · left; simp [h]
    · simp only [iteM_dec, iteM_not, idxM_get (show ([a, b] : List Int)[1]? = some b from rfl)]
      by_cases h : b = 0
      · right; simp [h, wI_of]
      · left; simp [h]
  · simp
theorem label_Compare_1_eq (p q : GPair) : label_Compare_1 p q = some (cmpP p q) := by
  unfold label_Compare_1
  simp only [drawM_eq, letE_eq]
  rw [cmp_eq, callM_some, cmp_eq, callM_some, cmp_Or_eq, callM_some]
  rfl
theorem cmpf_eq (a b : List GPair) (ha : a.length ≤ 16) (hb : b.length ≤ 16) : slices_CompareFunc_Pair_Pair_Pair_Pair_label_Compare_1 a b = some (cmpLs a b) := by
  unfold slices_CompareFunc_Pair_Pair_Pair_Pair_label_Compare_1
  simp only [letE_eq]
  refine (loopM_nat a.length (fun i => cmpLs (a.drop i) (b.drop i)) ?_ ?_).trans (by simp)
  · intro i hi
    simp only [iteM_dec, iteM_not, idxM_get (pr_get hi), label_Compare_1_eq, callM_some]
    rw [if_pos (by omega), drop_pr hi]
    by_cases hib : b.length ≤ i
    · left; rw [if_pos (by omega), List.drop_eq_nil_of_le hib]; simp [cmpLs]
    · rw [if_neg (by omega), idxM_get (pr_get (l := b) (by omega)), drop_pr (l := b) (by omega)]
      try simp only [iteM_dec]
      by_cases hc : cmpP (pr a i) (pr b i) = 0
      · right; rw [if_pos hc, wI_of (by omega)]; exact ⟨by simp, by simp [cmpLs, hc]⟩
      · left; rw [if_neg hc]; simp [cmpLs, hc]
  · try simp only [iteM_dec]
    rw [if_neg (by omega), List.drop_length]
    by_cases h : a.length < b.length
    · rw [if_pos (by omega), drop_pr (l := b) h]; simp [cmpLs]
    · rw [if_neg (by omega), List.drop_eq_nil_of_le (by omega)]; simp [cmpLs]
theorem label_Compare_eq (a b : List GPair) : label_Compare a b = some (compareL a b) := by
  unfold label_Compare
  rw [label_counts_eq, callM_some, label_counts_eq, callM_some, cmpf_eq _ _ (countsL_len _) (countsL_len _), callM_some]
  rfl

theorem ref03_Same_eq (a b : List GPair) (h : a.length ≤ 9223372036854775807) : ref03_Same a b = some (decide (a = b)) := by
  unfold ref03_Same
  simp only [letE_eq, iteM_not, iteM_dec]
  by_cases hl : a.length = b.length
  · rw [if_pos (by omega)]
    refine (loopM_nat a.length (fun i => decide (a.drop i = b.drop i)) ?_ ?_).trans (by simp)
    · intro i hi
      simp only [iteM_dec, idxM_get (pr_get hi), iteM_not]
      rw [if_pos (by omega), idxM_get (pr_get (l := b) (by omega)), drop_pr hi, drop_pr (l := b) (by omega)]
      by_cases e : pr a i = pr b i
      · right
        rw [e]
        rw [wI_of (by omega)]
        exact ⟨by simp, by simp⟩
      · left
        rw [show (decide ((pr a i).Name = (pr b i).Name) && (decide ((pr a i).Value = (pr b i).Value) && true)) = false from by
          rw [Bool.eq_false_iff]; intro h; simp at h; exact e (by cases hp : pr a i; cases hq : pr b i; rw [hp, hq] at h; simp at h; simp [h])]
        simp [e]
    · try simp only [iteM_dec]
      rw [if_neg (by omega)]
      simp [hl]
  · rw [if_neg (by omega)]
    have : a ≠ b := by rintro rfl; exact hl rfl
    simp [this]

theorem ref03_Few_eq (l : List GPair) (h : l.length ≤ 9223372036854775807) : ref03_Few l = some (fewB l) := by
  unfold ref03_Few
  simp only [letE_eq]
  refine (loopM_natB l.length (fun i a => a = sumW l i) (fun _ _ => fewB l) ?_ ?_ rfl).trans rfl
  · rintro i a hi rfl
    right
    simp only [iteM_dec, idxM_get (pr_get hi)]
    rw [if_pos (by omega), wI_of (x := (i : Int) + 1) (by omega)]
    exact ⟨_, by simp; rfl, rfl, trivial⟩
  · rintro a rfl
    simp only [iteM_dec, bif_and]
    rw [if_neg (by omega), fewB, show decide ((l.length : Int) ≤ 40) = decide (l.length ≤ 40) from by rw [decide_eq_decide]; omega]
    rfl
end Go.Proofs.Ytickejlolpoboaa.AM

/- Labels with one more: what is laid is got. -/
namespace Go.Proofs.Ytickejlolpoboaa.AM
open Go

theorem sane_of_make {l : List GPair} {m : List GPair} (h : makeL l = (m, 0)) : Good l ∧ m = sortP l ∧ saneB m = true := by
  have hw : wrongE l = 0 := by
    rcases Decidable.em (wrongE l = 0) with h' | h'
    · exact h'
    · rw [makeL_of rfl h'] at h; exact absurd (Prod.mk.inj h).2 h'
  have hg := wrongE_zero.1 hw
  rw [makeL_good hg] at h
  have e := (Prod.mk.inj h).1
  exact ⟨hg, e.symm, by rw [← e]; exact sane_sortP hg⟩
theorem getFrom_perm {l m : List GPair} (hn : (l.map (·.1)).Nodup) (hp : m.Perm l) (n : Str) : getFrom n m = getFrom n l := by
  have hm : (m.map (·.1)).Nodup := ((hp.map (·.1)).nodup_iff).2 hn
  by_cases h : ∃ p ∈ l, p.1 = n
  · obtain ⟨p, hpl, rfl⟩ := h
    rw [getFrom_mem hn hpl, getFrom_mem hm (hp.mem_iff.2 hpl)]
  · have none : ∀ {k : List GPair}, (¬ ∃ p ∈ k, p.1 = n) → getFrom n k = (([] : Str), false) := by
      intro k
      induction k with
      | nil => intro _; rfl
      | cons q k ih =>
        intro hk
        rw [getFrom, if_neg (fun e => hk ⟨q, List.mem_cons_self, e⟩)]
        exact ih fun ⟨p, hp', e⟩ => hk ⟨p, List.mem_cons_of_mem _ hp', e⟩
    rw [none h, none (fun ⟨p, hp', e⟩ => h ⟨p, hp.mem_iff.1 hp', e⟩)]
theorem getFrom_filter {l : List GPair} {n m : Str} (h : m ≠ n) : getFrom m (l.filter fun p => !decide (p.1 = n)) = getFrom m l := by
  induction l with
  | nil => rfl
  | cons p l ih =>
    simp only [List.filter_cons]
    by_cases hp : p.1 = n
    · simp only [hp, decide_true, Bool.not_true, Bool.false_eq_true, if_false, ih, getFrom]
      rw [if_neg (fun e => h e.symm)]
    · simp only [hp, decide_false, Bool.not_false, if_true, getFrom, ih]
theorem getFrom_filter_same {l : List GPair} {n : Str} : getFrom n (l.filter fun p => !decide (p.1 = n)) = (([] : Str), false) := by
  induction l with
  | nil => rfl
  | cons p l ih =>
    simp only [List.filter_cons]
    by_cases hp : p.1 = n
    · simp [hp, ih]
    · simp [hp, getFrom, ih]
theorem getFrom_append {l m : List GPair} {n : Str} : getFrom n (l ++ m) = if (getFrom n l).2 then getFrom n l else getFrom n m := by
  induction l with
  | nil => simp [getFrom]
  | cons p l ih =>
    simp only [List.cons_append, getFrom]
    split
    · simp
    · exact ih
theorem withoutL_sane {l : List GPair} (h : saneB l = true) (n : Str) : withoutL l n = l.filter fun p => !decide (p.1 = n) := by rw [withoutL, countsL, if_pos h]
theorem getL_sane {l : List GPair} (h : saneB l = true) (n : Str) : getL l n = getFrom n l := by rw [getL, countsL, if_pos h]
theorem sane_sub {l m : List GPair} (h : saneB l = true) (hs : m.Sublist l) : saneB m = true := by
  obtain ⟨h1, h2, h3, h4⟩ := saneB_iff.1 h
  exact saneB_iff.2 ⟨Nat.le_trans hs.length_le h1, fun p hp => h2 p (hs.subset hp), fun p hp => h3 p (hs.subset hp), h4.sublist hs⟩
theorem sane_names {l : List GPair} (h : saneB l = true) : (l.map (·.1)).Nodup := twice_iff.1 (saneB_good' h).1.once
theorem sane_unique {l m : List GPair} (hl : saneB l = true) (hm : saneB m = true) (hp : l.Perm m) : l = m :=
  asc_unique (saneB_good' hl).2 (saneB_good' hm).2 hp (sane_names hl)

theorem withL_ok {l m : List GPair} {n v : Str} (hs : saneB l = true) (h : withL l n v = (m, 0)) :
    saneB m = true ∧ getL m n = (v, true) ∧ (∀ k, k ≠ n → getL m k = getL l k) ∧ withoutL m n = withoutL l n ∧ (withoutL l n).length + 1 = m.length ∧ saneB (withoutL l n) = true := by
  obtain ⟨hg, e, hm⟩ := sane_of_make h
  have hr := withoutL_sane hs n
  have hrs : saneB (withoutL l n) = true := by rw [hr]; exact sane_sub hs List.filter_sublist
  have hp : m.Perm (withoutL l n ++ [⟨n, v⟩]) := by rw [e]; exact sortP_perm _
  have hn := twice_iff.1 hg.once
  have hget : ∀ k, getL m k = getFrom k (withoutL l n ++ [⟨n, v⟩]) := fun k => by rw [getL_sane hm]; exact getFrom_perm hn hp k
  refine ⟨hm, ?_, fun k hk => ?_, ?_, ?_, hrs⟩
  · rw [hget, getFrom_append, hr, getFrom_filter_same]; simp [getFrom]
  · rw [hget, getFrom_append, hr, getFrom_filter hk, getL_sane hs]
    split
    · rfl
    · rename_i h0
      have none : ∀ {q : List GPair}, (getFrom k q).2 = false → getFrom k q = (([] : Str), false) := by
        intro q
        induction q with
        | nil => intro _; rfl
        | cons p q ih =>
          simp only [getFrom]
          split
          · intro h; cases h
          · exact ih
      rw [none (q := l) (by simpa using h0)]
      simp only [getFrom]
      rw [if_neg (fun e => hk e.symm)]
  · rw [withoutL_sane hm]
    refine sane_unique (sane_sub hm List.filter_sublist) hrs ?_
    have h1 := hp.filter fun p => !decide (p.1 = n)
    rw [List.filter_append] at h1
    have h2 : ([⟨n, v⟩] : List GPair).filter (fun p => !decide (p.1 = n)) = [] := by simp
    have h3 : (withoutL l n).filter (fun p => !decide (p.1 = n)) = withoutL l n := by rw [hr, List.filter_filter]; simp
    rw [h2, h3, List.append_nil] at h1
    exact h1
  · rw [hp.length_eq]; simp

theorem withL_bad {l m : List GPair} {n v : Str} {e : Int} (hs : saneB l = true) (h : withL l n v = (m, e)) (he : e ≠ 0) : m = [] ∧ (nameB n = false ∨ 64 < v.length ∨ l.length = 16) := by
  have hb : ¬ Good (withoutL l n ++ [⟨n, v⟩]) := by
    intro hg
    rw [withL, makeL_good hg] at h
    exact he (Prod.mk.inj h).2.symm
  have hm := (makeL_bad hb).1
  rw [withL] at h
  rw [h] at hm
  refine ⟨hm, ?_⟩
  by_cases h1 : nameB n = true
  · by_cases h2 : v.length ≤ 64
    · refine .inr (.inr ?_)
      have hr := withoutL_sane hs n
      have hrs : saneB (withoutL l n) = true := by rw [hr]; exact sane_sub hs List.filter_sublist
      have hgl := (saneB_good' hrs).1
      have hlen : ¬ (withoutL l n ++ ([⟨n, v⟩] : List GPair)).length ≤ 16 := by
        intro hl
        refine hb ⟨hl, fun p hp => ?_, fun p hp => ?_, twice_iff.2 ?_⟩
        · rcases List.mem_append.1 hp with hp | hp
          · exact hgl.short p hp
          · simp only [List.mem_singleton] at hp; subst hp; simp only [tooLong, decide_eq_false_iff_not]; omega
        · rcases List.mem_append.1 hp with hp | hp
          · exact hgl.name p hp
          · simp only [List.mem_singleton] at hp; subst hp; exact h1
        · rw [List.map_append, List.nodup_append]
          refine ⟨sane_names hrs, by simp, ?_⟩
          intro a ha b hb' hab
          simp only [List.map_cons, List.map_nil, List.mem_singleton] at hb'
          subst hb'; subst hab
          obtain ⟨p, hp, hpe⟩ := List.mem_map.1 ha
          rw [hr, List.mem_filter] at hp
          simp [hpe] at hp
      have := (saneB_iff.1 hs).1
      have hle : (withoutL l n).length ≤ l.length := by rw [hr]; exact List.length_filter_le _ _
      simp only [List.length_append, List.length_cons, List.length_nil] at hlen
      omega
    · exact .inr (.inl (by omega))
  · exact .inl (by simpa using h1)
theorem countsL_sane {l : List GPair} (h : saneB l = true) : countsL l = l := by rw [countsL, if_pos h]
theorem compareL_sane {a b : List GPair} (ha : saneB a = true) (hb : saneB b = true) : compareL a b = cmpLs a b := by rw [compareL, countsL_sane ha, countsL_sane hb]


end Go.Proofs.Ytickejlolpoboaa.AM

/- The law's example; the law of what is laid. -/
namespace Go.Proofs.Ytickejlolpoboaa.AM
open Go

def R1 : List GPair := [⟨[97], [50]⟩, ⟨[98], [49]⟩]
def M1 : List GPair := [⟨[97], [51]⟩, ⟨[98], [49]⟩]
theorem aw1 : makeL [⟨[98], [49]⟩, ⟨[97], [50]⟩] = (R1, 0) := by decide +kernel
theorem aw2 : makeL [⟨[49], []⟩] = ([], 7) := by decide +kernel
theorem aw3 : getL R1 [98] = ([49], true) := by decide +kernel
theorem aw4 : mergeL R1 [⟨[97], [51]⟩] = (M1, 0) := by decide +kernel
theorem aw5 : saneB R1 = true := by decide +kernel
theorem aw6 : compareL R1 M1 = -1 := by decide +kernel
theorem aw7 : nameB [95, 97, 49] = true := by decide +kernel

theorem law03_awake_eq : law03_awake = some true := by
  unfold law03_awake
  simp only [letE_eq, label_Make_eq, label_Get_eq, label_Merge_eq, label_Sane_eq, label_Compare_eq, label_Name_eq, callM_some, aw1, aw2, aw3, aw4, aw5, aw6, aw7]
  rfl
end Go.Proofs.Ytickejlolpoboaa.AM

/- Labels merged: the other's value counts. -/
namespace Go.Proofs.Ytickejlolpoboaa.AM
open Go

theorem getFrom_none {l : List GPair} {n : Str} (h : (getFrom n l).2 = false) : getFrom n l = ([], false) := by
  induction l with
  | nil => rfl
  | cons p l ih =>
    simp only [getFrom] at h ⊢
    split
    · rename_i e; rw [if_pos e] at h; cases h
    · rename_i e; rw [if_neg e] at h; exact ih h
theorem has_iff {l : List GPair} {n : Str} : (getFrom n l).2 = true ↔ ∃ p ∈ l, p.1 = n := by
  induction l with
  | nil => simp [getFrom]
  | cons p l ih =>
    simp only [getFrom]
    by_cases h : p.1 = n
    · simp [h]
    · rw [if_neg h, ih]; simp [h]
theorem getFrom_keep {l : List GPair} {n : Str} {f : GPair → Bool} (h : ∀ p ∈ l, p.1 = n → f p = true) : getFrom n (l.filter f) = getFrom n l := by
  induction l with
  | nil => rfl
  | cons p l ih =>
    have ih' := ih fun q hq => h q (List.mem_cons_of_mem _ hq)
    by_cases hp : p.1 = n
    · simp [h p List.mem_cons_self hp, getFrom, hp]
    · cases hf : f p
      · simp [hf, getFrom, hp, ih']
      · simp [hf, getFrom, hp, ih']

def rest (a b : List GPair) : List GPair := a.filter (fun p => !(getFrom p.1 b).2)
theorem mergeL_sane {a b : List GPair} (ha : saneB a = true) (hb : saneB b = true) : mergeL a b = makeL (rest a b ++ b) := by
  unfold mergeL rest
  rw [countsL_sane ha, countsL_sane hb]
  simp only [getL_sane hb]
theorem rest_good {a b : List GPair} (ha : saneB a = true) (hb : saneB b = true) (h : (rest a b ++ b).length ≤ 16) : Good (rest a b ++ b) := by
  obtain ⟨_, a2, a3, _⟩ := saneB_iff.1 ha
  obtain ⟨_, b2, b3, _⟩ := saneB_iff.1 hb
  have hn : ((rest a b ++ b).map (·.1)).Nodup := by
    rw [List.map_append, List.nodup_append]
    refine ⟨?_, sane_names hb, ?_⟩
    · exact (sane_names ha).sublist (List.filter_sublist.map _)
    · intro x hx y hy e
      subst e
      obtain ⟨p, hp, rfl⟩ := List.mem_map.1 hx
      obtain ⟨q, hq, he⟩ := List.mem_map.1 hy
      rw [rest, List.mem_filter] at hp
      have := has_iff.2 ⟨q, hq, he⟩
      simp [this] at hp
  refine ⟨h, fun p hp => ?_, fun p hp => ?_, twice_iff.2 hn⟩
  · simp only [tooLong, decide_eq_false_iff_not]
    rcases List.mem_append.1 hp with hp | hp
    · have := a3 p (List.mem_filter.1 hp).1; omega
    · have := b3 p hp; omega
  · rcases List.mem_append.1 hp with hp | hp
    · exact a2 p (List.mem_filter.1 hp).1
    · exact b2 p hp
theorem merge_nil {a : List GPair} (ha : saneB a = true) : mergeL a [] = (a, 0) := by
  rw [mergeL_sane ha (by decide)]
  have : rest a [] ++ [] = a := by simp [rest, getFrom]
  rw [this]
  obtain ⟨hg, hs⟩ := saneB_good' ha
  rw [makeL_good hg, sortP_sorted hg hs]
theorem merge_bad {a b : List GPair} (ha : saneB a = true) (hb : saneB b = true) {m : List GPair} {e : Int} (h : mergeL a b = (m, e)) (he : e ≠ 0) : m = [] ∧ e = 4 ∧ 16 < a.length + b.length := by
  rw [mergeL_sane ha hb] at h
  have hl : ¬ (rest a b ++ b).length ≤ 16 := fun hl => by
    rw [makeL_good (rest_good ha hb hl)] at h
    exact he (Prod.mk.inj h).2.symm
  rw [makeL_of (e := 4) (by rw [wrongE, if_pos (by omega)]) (by decide)] at h
  have hr : (rest a b).length ≤ a.length := List.length_filter_le _ _
  rw [List.length_append] at hl
  exact ⟨(Prod.mk.inj h).1.symm, (Prod.mk.inj h).2.symm, by omega⟩
theorem merge_ok {a b : List GPair} (ha : saneB a = true) (hb : saneB b = true) {m : List GPair} (h : mergeL a b = (m, 0)) (n : Str) :
    saneB m = true ∧ mergeL m b = (m, 0) ∧ getL m n = (if (getL b n).2 = true then getL b n else getL a n) := by
  rw [mergeL_sane ha hb] at h
  obtain ⟨hg, e, hm⟩ := sane_of_make h
  have hp : m.Perm (rest a b ++ b) := by rw [e]; exact sortP_perm _
  refine ⟨hm, ?_, ?_⟩
  · rw [mergeL_sane hm hb]
    have hp2 : (rest m b ++ b).Perm m := by
      refine List.Perm.trans ?_ hp.symm
      refine List.Perm.append_right b ?_
      have h1 := hp.filter fun p => !(getFrom p.1 b).2
      rw [List.filter_append] at h1
      have h2 : b.filter (fun p => !(getFrom p.1 b).2) = [] := by
        rw [List.filter_eq_nil_iff]; intro p hpb; simp [has_iff.2 ⟨p, hpb, rfl⟩]
      have h3 : (rest a b).filter (fun p => !(getFrom p.1 b).2) = rest a b := by unfold rest; rw [List.filter_filter]; simp
      rw [h2, h3, List.append_nil] at h1
      exact h1
    obtain ⟨hgm, hsm⟩ := saneB_good' hm
    rw [makeL_perm hgm hp2, sortP_sorted hgm hsm]
  · rw [getL_sane hm, getL_sane hb, getL_sane ha, getFrom_perm (twice_iff.1 hg.once) hp, getFrom_append]
    cases hbn : (getFrom n b).2
    · have hk : getFrom n (rest a b) = getFrom n a := getFrom_keep fun p _ hpn => by subst hpn; simp [hbn]
      rw [hk]
      simp only [Bool.false_eq_true, if_false]
      split
      · rfl
      · rename_i h0
        rw [getFrom_none hbn, getFrom_none (by simpa using h0)]
    · have hno : (getFrom n (rest a b)).2 = false := by
        rw [Bool.eq_false_iff]
        intro hh
        obtain ⟨p, hp', rfl⟩ := has_iff.1 hh
        rw [rest, List.mem_filter] at hp'
        simp [hbn] at hp'
      rw [hno]; simp

theorem law03_LabelMerges_pl (a b : List GPair) (n : Str) (hla : a.length ≤ 9223372036854775807) (hlb : b.length ≤ 9223372036854775807) : law03_LabelMerges a b n = some true := by
  unfold law03_LabelMerges
  simp only [letE_eq, law03_awake_eq, callM_some, ref03_Few_eq a hla, ref03_Few_eq b hlb, bif_or, bif_and, iteM_not]
  cases f1 : fewB a
  · rfl
  rw [iteM_true]
  by_cases h0 : (!fewB b || decide ((1000 : Int) < (n.length : Int))) = true
  · rw [h0]; rfl
  rw [Bool.not_eq_true] at h0
  rw [h0, iteM_false, label_Sane_eq, callM_some]
  cases s1 : saneB a
  · rfl
  rw [iteM_true, label_Sane_eq, callM_some]
  cases s2 : saneB b
  · rfl
  rw [iteM_true, label_Merge_eq, callM_some, label_Merge_eq, callM_some, merge_nil s1]
  have ha := (saneB_iff.1 s1).1
  have hb := (saneB_iff.1 s2).1
  rcases hm : mergeL a b with ⟨m, e⟩
  by_cases he : e = 0
  · subst he
    obtain ⟨m1, m2, m3⟩ := merge_ok s1 s2 hm n
    have hml := (saneB_iff.1 m1).1
    have e1 : ref03_Same a a = some true := by rw [ref03_Same_eq _ _ hla]; simp
    have e2 : ref03_Same m m = some true := by rw [ref03_Same_eq _ _ (by omega)]; simp
    simp only [label_Get_eq, label_Merge_eq, label_Sane_eq, callM_some, m3, m2, m1, e1, e2]
    cases h1 : (getL b n).2 <;> cases h2 : (getL a n).2 <;> simp [h1, h2]
  · obtain ⟨rfl, rfl, h3⟩ := merge_bad s1 s2 hm he
    simp [wI_of, h3]
    rw [wI_of (by omega)]
    omega
end Go.Proofs.Ytickejlolpoboaa.AM

/- Some of them are labels, too. -/
namespace Go.Proofs.Ytickejlolpoboaa.AM
open Go

theorem bAnd_le {a b : Int} (h0 : 0 ≤ b) (h : b ≤ 9223372036854775807) : 0 ≤ bAnd .i64 a b ∧ bAnd .i64 a b ≤ b := by
  unfold bAnd
  have e : (BitVec.ofInt 64 b).toNat = b.toNat := by rw [BitVec.toNat_ofInt]; omega
  have h1 : (BitVec.ofInt 64 a &&& BitVec.ofInt 64 b).toNat ≤ b.toNat := by rw [BitVec.toNat_and, e]; exact Nat.and_le_right
  have h2 : IntKind.i64.wrap ((BitVec.ofInt 64 a &&& BitVec.ofInt 64 b).toNat : Int) = ((BitVec.ofInt 64 a &&& BitVec.ofInt 64 b).toNat : Int) := wI_of (by omega)
  show 0 ≤ IntKind.i64.wrap ((BitVec.ofInt 64 a &&& BitVec.ofInt 64 b).toNat : Int) ∧ IntKind.i64.wrap ((BitVec.ofInt 64 a &&& BitVec.ofInt 64 b).toNat : Int) ≤ b
  rw [h2]; omega

theorem cut_cmp : ∀ (l : List GPair) (i : Nat), cmpLs (l.take i) l = if i < l.length then -1 else 0
  | [], i => by simp [cmpLs]
  | p :: l, 0 => by simp [cmpLs]
  | p :: l, i + 1 => by
    have ih := cut_cmp l i
    have hz : cmpP p p = 0 := (cmpP_ord.zero p p).2 rfl
    simp only [List.take_succ_cons, cmpLs, hz, ih, List.length_cons]
    simp
theorem rest_disj {a b : List GPair} (h : ((a ++ b).map (·.1)).Nodup) : rest a b = a := by
  unfold rest
  rw [List.filter_eq_self]
  intro p hp
  rw [Bool.not_eq_true', Bool.eq_false_iff]
  intro hh
  obtain ⟨q, hq, he⟩ := has_iff.1 hh
  rw [List.map_append, List.nodup_append] at h
  exact h.2.2 p.1 (List.mem_map.2 ⟨p, hp, rfl⟩) q.1 (List.mem_map.2 ⟨q, hq, rfl⟩) he.symm
theorem cut_merge {l : List GPair} (h : saneB l = true) (i : Nat) : mergeL (l.take i) (l.drop i) = (l, 0) ∧ mergeL (l.drop i) (l.take i) = (l, 0) := by
  have h1 : saneB (l.take i) = true := sane_sub h (List.take_sublist _ _)
  have h2 : saneB (l.drop i) = true := sane_sub h (List.drop_sublist _ _)
  obtain ⟨hg, hs⟩ := saneB_good' h
  have hn := sane_names h
  constructor
  · rw [mergeL_sane h1 h2, rest_disj (by rw [List.take_append_drop]; exact hn), List.take_append_drop, makeL_good hg, sortP_sorted hg hs]
  · have hp : (l.drop i ++ l.take i).Perm l := by
      have := List.perm_append_comm (l₁ := l.drop i) (l₂ := l.take i)
      rwa [List.take_append_drop] at this
    rw [mergeL_sane h2 h1, rest_disj ((hp.map _).nodup_iff.2 hn), makeL_perm hg hp, sortP_sorted hg hs]

theorem law03_LabelCut_pl (l : List GPair) (k : Int) (hl : l.length ≤ 9223372036854775807) : law03_LabelCut l k = some true := by
  unfold law03_LabelCut
  simp only [letE_eq, law03_awake_eq, callM_some, ref03_Few_eq l hl, iteM_not, drawM_eq]
  cases f1 : fewB l
  · rfl
  rw [iteM_true, label_Sane_eq, callM_some]
  cases s1 : saneB l
  · rfl
  have hlen := (saneB_iff.1 s1).1
  rw [iteM_true, wI_of (by omega), gdM_pos (by omega)]
  have hb := bAnd_le (a := k) (b := 65535) (by omega) (by omega)
  generalize bAnd .i64 k 65535 = z at hb
  have hz : ∃ i : Nat, Int.tmod z ((l.length : Int) + 1) = (i : Int) ∧ i ≤ l.length := by
    obtain ⟨n, rfl⟩ := Int.eq_ofNat_of_zero_le hb.1
    refine ⟨n % (l.length + 1), ?_, ?_⟩
    · rw [Int.tmod_eq_emod_of_nonneg (by omega)]; push_cast; rfl
    · have := Nat.mod_lt n (show 0 < l.length + 1 by omega); omega
  obtain ⟨i, e, hi⟩ := hz
  rw [e]
  obtain ⟨m1, m2⟩ := cut_merge s1 i
  have h1 : saneB (l.take i) = true := sane_sub s1 (List.take_sublist _ _)
  have h2 : saneB (l.drop i) = true := sane_sub s1 (List.drop_sublist _ _)
  have hc : compareL (l.take i) l = if i < l.length then -1 else 0 := by rw [compareL_sane h1 s1]; exact cut_cmp l i
  have g1 : 0 ≤ (0 : Int) ∧ (0 : Int) ≤ (i : Int) ∧ (i : Int) ≤ (l.length : Int) := by omega
  have g2 : 0 ≤ (i : Int) ∧ (i : Int) ≤ (l.length : Int) ∧ (l.length : Int) ≤ (l.length : Int) := by omega
  have hs : ref03_Same l l = some true := by rw [ref03_Same_eq _ _ hl]; simp
  have t1 : (l.take (i : Int).toNat).drop (0 : Int).toNat = l.take i := by simp
  have t2 : (l.take (l.length : Int).toNat).drop (i : Int).toNat = l.drop i := by simp
  simp only [gdM_pos g1, gdM_pos g2, t1, t2, label_Merge_eq, label_Compare_eq, label_Sane_eq, callM_some, m1, m2, h1, h2, hc, hs, iteM_true, bif_and]
  by_cases hlt : i < l.length
  · simp [hlt]
  · simp [hlt]
end Go.Proofs.Ytickejlolpoboaa.AM
